/-
  Things that are kept, in memory; walk: slices.Clone at them.
-/
import Derived.Test.YtmmfcjkabpffeaaGreatDoorGenA
import Derived.Test.YtmmfcjkabpffeaaGreatDoorFreezeP
import Derived.Lib.AppendZerosOnto
import Derived.Lib.SliceRun
import Derived.Lib.Walk
import Derived.Deep.Onto
namespace Go.Proofs.YtmmfcjkabpffeaaGreatDoor
open Go.RowKit

/-- the cells of a list of kept things -/
def kCells (l : List Kp) : List Value := l.flatMap fun k => [.bool k.1, S k.2]
theorem kCells_cons (k : Kp) (l : List Kp) : kCells (k :: l) = .bool k.1 :: S k.2 :: kCells l := rfl
theorem kCells_append (a b : List Kp) : kCells (a ++ b) = kCells a ++ kCells b := by simp [kCells]
theorem kCells_length : ∀ l : List Kp, (kCells l).length = l.length * 2
  | [] => rfl
  | k :: l => by rw [kCells_cons, List.length_cons, List.length_cons, kCells_length l, List.length_cons]; omega
theorem kCells_at : ∀ (l : List Kp) {k : Nat}, k < l.length → (kCells l)[k * 2]? = some (.bool (l.getD k (false, [])).1) ∧ (kCells l)[k * 2 + 1]? = some (S (l.getD k (false, [])).2)
  | [], _, h => by simp at h
  | a :: l, 0, _ => ⟨rfl, rfl⟩
  | a :: l, k + 1, h => by
    have ih := kCells_at l (k := k) (by simpa using h)
    rw [kCells_cons, show (k + 1) * 2 = k * 2 + 1 + 1 by omega, List.getElem?_cons_succ, List.getElem?_cons_succ, List.getElem?_cons_succ, List.getElem?_cons_succ, List.getD_cons_succ]
    exact ih
theorem kCells_set : ∀ (l : List Kp) {k : Nat} (b : Bool) (s : List UInt8), k < l.length → ((kCells l).set (k * 2) (.bool b)).set (k * 2 + 1) (S s) = kCells (l.set k (b, s))
  | [], _, _, _, h => by simp at h
  | a :: l, 0, b, s, _ => rfl
  | a :: l, k + 1, b, s, h => by
    have ih := kCells_set l (k := k) b s (by simpa using h)
    rw [kCells_cons, show (k + 1) * 2 = k * 2 + 1 + 1 by omega, List.set_cons_succ, List.set_cons_succ, List.set_cons_succ, List.set_cons_succ, ih, List.set_cons_succ, kCells_cons]
theorem kCells_one (l : List Kp) : ∀ u ∈ kCells l, u.oneCell' = true := fun u hu => by
  obtain ⟨k, _, h⟩ := List.mem_flatMap.1 hu
  simp only [List.mem_cons, List.not_mem_nil, or_false] at h
  rcases h with rfl | rfl <;> rfl
/-- a slice of kept things -/
abbrev Kps (w : World) (B : Nat) (A : Option Addr) (l : List Kp) : Prop := Lies w B A (kCells l)
theorem Kps.at' {w : World} {B k : Nat} {A : Option Addr} {l : List Kp} (h : Kps w B A l) (hk : k < l.length) :
    ∃ ad, A = some ad ∧ ad.block < B ∧ w.cell? (ad.add (k * 2)) = some (.bool (l.getD k (false, [])).1) ∧ w.cell? ⟨(ad.add (k * 2)).block, (ad.add (k * 2)).off + 1, none⟩ = some (S (l.getD k (false, [])).2) := by
  obtain ⟨h0, h1⟩ := kCells_at l hk
  obtain ⟨ad, rfl, hb, c0⟩ := h _ _ h0
  obtain ⟨ad', e', _, c1⟩ := h _ _ h1
  obtain rfl : ad = ad' := by injection e'
  refine ⟨ad, rfl, hb, c0, ?_⟩
  rw [show (⟨(ad.add (k * 2)).block, (ad.add (k * 2)).off + 1, none⟩ : Addr) = ad.add (k * 2 + 1) by unfold Addr.add; by_cases h : k * 2 = 0 <;> simp [h, Nat.add_assoc]]
  exact c1
theorem Tryz.infoKept : (Tryz.prog.info? 83).map (fun i => (i.zero, i.size, i.bytes)) = some (some (.agg #[.bool false, .string ⟨#[]⟩]), 2, 24) := by kernel_rfl
abbrev OwnK (w : World) (base : Nat) (v : Value) (l : List Kp) : Prop := w.ownsRow base 83 2 v l.length (kCells l)
set_option maxRecDepth 100000 in
set_option maxHeartbeats 1000000 in
theorem cloneK_any (w : World) (A : Option Addr) (c : Nat) (ls : List Kp) (hA : Kps w w.heap.size A ls) (hn : ls.length ≤ 1099511627776) :
    Calls Tryz.prog 146 #[.slice A ls.length c] w fun e w' => (∃ v, e = .returned v ∧ OwnK w' w.heap.size v ls) ∧ Below w.heap.size w w' := by
  obtain ⟨i0, hi0, hz0, hz1, hz2⟩ := info_parts Tryz.infoKept
  cases A with
  | none =>
    have hls : ls = [] := by
      cases ls with
      | nil => rfl
      | cons l r => obtain ⟨ad, e, _⟩ := hA.at' (k := 0) (by simp); cases e
    subst hls
    have he : ∀ W : World, (binOp .eql 41 (.slice none 0 c) (.slice none 0 0)).run Tryz.prog W = .ok (.bool true) W := fun W => Lib.run_eql_slice_nil W 41 83 none 0 c 0 0 Tryz.underlying41
    go_enter Tryz.func146, Tryz.ntmps146
    go_wp2
    go_ret
    exact ⟨⟨_, rfl, World.ownsRow_nil _ _ _ _⟩, Below.refl _ _⟩
  | some ad =>
    have he : ∀ W : World, (binOp .eql 41 (.slice (some ad) ls.length c) (.slice none 0 0)).run Tryz.prog W = .ok (.bool false) W := fun W => Lib.run_eql_slice_nil W 41 83 (some ad) ls.length c 0 0 Tryz.underlying41
    have HQ := Lib.hid (Lies.block hA (Nat.le_refl _) (.cells #[] 83))
    have HO : Hid (OwnK (w.alloc (.cells #[] 83)) w.heap.size (.slice (some ⟨w.heap.size, 0, none⟩) 0 0) []) := Lib.hid (World.ownsRow_lit w #[] 0 (Nat.le_refl _) (by unfold maxLen; omega) rfl)
    have HS1 : Hid ((kCells ls).length = ls.length * 2) := Lib.hid (kCells_length ls)
    have H63 : Hid (0 + ls.length ≤ maxLen) := Lib.hid (by unfold maxLen; omega)
    have HBY : Hid ((0 + ls.length) * 24 ≤ 140737488355328) := Lib.hid (by omega)
    have HBA : Hid (w.heap.size ≤ (w.alloc (.cells #[] 83)).heap.size) := Lib.hid (by simp)
    clear hA
    go_enter Tryz.func146, Tryz.ntmps146
    go_wp2_with (at_builtin; refine wpList_append_src rfl (.tmp 5) (.tmp 6) 41 rfl w.heap.size 83 i0 _ 2 24 Tryz.underlying41 hi0 hz0 hz1 hz2 rfl (by decide) _ _ _ rfl HO.out w.heap.size (some ad) ls.length c (kCells ls) rfl HS1.out HQ.out (kCells_one ls) H63.out HBY.out HBA.out ?_; intro v' w1 hown' hgrow)
    have hown2 := hown'
    rw [show ([] : List Kp).length + ls.length = ls.length by simp, show kCells [] ++ kCells ls = kCells ls by simp [kCells]] at hown2
    go_ret
    exact ⟨⟨_, rfl, hown2⟩, ((Below.refl _ _).alloc (Nat.le_refl _) _).grown hgrow HBA.out (own_ge HO.out)⟩
end Go.Proofs.YtmmfcjkabpffeaaGreatDoor
/-
  Walk: freeze.kept, over any function value that keeps to its contract.
-/
namespace Go.Proofs.YtmmfcjkabpffeaaGreatDoor
open Go.RowKit

theorem own_spared {w w' : World} {base : Nat} {e : TypeId} {size n : Nat} {v : Value} {xs : List Value} {X : Option Nat} (h : w.ownsRow base e size v n xs) (hg : w.grownBy w' X) (hX : ∀ g, X = some g → g < base) : w'.ownsRow base e size v n xs := by
  refine ⟨h.1, ?_⟩
  rcases h.2 with h1 | ⟨g, cap, cur, rfl, h2, h3, h4⟩
  · exact .inl h1
  · refine .inr ⟨g, cap, cur, rfl, h2, ?_, h4⟩
    rw [hg.block g (Array.getElem?_eq_some_iff.1 h3).1 (fun e => by have := hX g e.symm; omega)]
    exact h3
theorem grown_trans {a b c : World} {X : Option Nat} (h : a.grownBy b X) (k : b.grownBy c X) : a.grownBy c X :=
  ⟨k.os.trans h.os, k.tape.trans h.tape, k.output.trans h.output, Nat.le_trans h.size k.size, fun i hi hx => (k.block i (Nat.lt_of_lt_of_le hi h.size) hx).trans (h.block i hi hx)⟩
theorem grown_of_below {a b : World} (X : Option Nat) (h : Below a.heap.size a b) : a.grownBy b X := ⟨h.os, h.tape, h.output, h.size, fun i hi _ => h.block i hi⟩
theorem grown_below {B : Nat} {a b c : World} {X : Option Nat} (h : Below B a b) (hB : B ≤ b.heap.size) (k : b.grownBy c X) (hX : ∀ g, X = some g → B ≤ g) : Below B a c :=
  ⟨k.os.trans h.os, k.tape.trans h.tape, k.output.trans h.output, Nat.le_trans h.size k.size, fun i hi => (k.block i (Nat.lt_of_lt_of_le hi hB) (fun e => by have := hX i e.symm; omega)).trans (h.block i hi)⟩
theorem grown_set {w W : World} {X : Option Nat} (h : w.grownBy W X) {p : Addr} (hp : w.heap.size ≤ p.block) (u : Value) : w.grownBy (W.setCell p u) X :=
  ⟨h.os, h.tape, h.output, by simpa [World.setCell] using h.size, fun i hi hx => (Below.heap_setCell W p u i (by omega)).trans (h.block i hi hx)⟩
/-- what a walk over a list of kept things leaves: all that stood is as it stood, but for one block at most -/
def KeptPost (w : World) (X : Option Nat) (l : List Kp) (s : Int) (I : Int → World → Prop) (e : Ending) (w' : World) : Prop :=
  (∃ v, e = .returned v ∧ OwnK w' w.heap.size v l) ∧ I s w' ∧ w.grownBy w' X
theorem kept_set {f : Int → Nat → List UInt8 → Bool × Int} {l : List Kp} {now : List (List UInt8)} {s : Int} {k : Nat} (hk : k < l.length) (hn : k < now.length) :
    (keepRec f 0 (l.take (k + 1)) now s).1 ++ l.drop (k + 1) = ((keepRec f 0 (l.take k) now s).1 ++ l.drop k).set k (keepStep f k (l.getD k (false, [])) (now.getD k []) (keepRec f 0 (l.take k) now s).2).1 := by
  have hl : (keepRec f 0 (l.take k) now s).1.length = k := by rw [keep_length, List.length_take]; omega
  rw [keep_take f hk hn, List.set_append, if_neg (by omega), hl, Nat.sub_self, List.drop_eq_getElem_cons hk, List.set_cons_zero, List.append_assoc]
  rfl
theorem kept_same {f : Int → Nat → List UInt8 → Bool × Int} {l : List Kp} {now : List (List UInt8)} {s : Int} {k : Nat} (hk : k < l.length) : ((keepRec f 0 (l.take k) now s).1 ++ l.drop k).getD k (false, []) = l.getD k (false, []) := by
  have hl : (keepRec f 0 (l.take k) now s).1.length = k := by rw [keep_length, List.length_take]; omega
  rw [List.getD_eq_getElem?_getD, List.getElem?_append_right (by omega), hl, Nat.sub_self]
  simp [List.getD, hk]
set_option maxRecDepth 100000 in
set_option maxHeartbeats 2000000 in
theorem kept_any (fid gc : Nat) (hfid : fid = 122 ∨ fid = 123) (f : Int → Nat → List UInt8 → Bool × Int) (X : Option Nat) (I : Int → World → Prop) (B : Nat) (w : World) (A N : Option Addr) (c d : Nat) (l : List Kp) (now : List (List UInt8)) (s0 : Int)
    (hB : B ≤ w.heap.size) (hA : Kps w B A l) (hN : Strs w B N now) (hl : l.length ≤ 1099511627776) (hn : now.length ≤ 1099511627776) (hI : I s0 w) (hX : ∀ g, X = some g → B ≤ g ∧ g < w.heap.size)
    (hst : ∀ s W W', I s W → Below w.heap.size W W' → I s W')
    (hc : ∀ s W i x, I s W → w.heap.size ≤ W.heap.size → Calls Tryz.prog fid #[.int .i64 (i : Nat), S x, .pointer (some ⟨gc, 0, none⟩)] W fun e W' => e = .returned (.bool (f s i x).1) ∧ I (f s i x).2 W' ∧ W.grownBy W' X) :
    Calls Tryz.prog 121 #[.slice A l.length c, .slice N now.length d, .func (.func fid) #[] #[.pointer (some ⟨gc, 0, none⟩)]] w (KeptPost w X (keepRec f 0 l now s0).1 (keepRec f 0 l now s0).2 I) := by
  have HA := Lib.hid hA
  have HN := Lib.hid hN
  have HI := Lib.hid hI
  have HX := Lib.hid hX
  have HST := Lib.hid hst
  have HC := Lib.hid hc
  have HCL := Lib.hid (cloneK_any w A c l (hA.wide hB) hl)
  clear hA hN hI hX hst hc
  rcases hfid with rfl | rfl
  all_goals
  go_enter Tryz.func121, Tryz.ntmps121
  go_wp2_with fail
  refine HCL.out.mono ?_
  rintro e w1 ⟨⟨v1, rfl, ho1⟩, hb1⟩
  have HO1 := Lib.hid ho1
  have HB1 : Hid (Below B w w1) := Lib.hid (hb1.mono hB)
  have HG1 := Lib.hid (grown_of_below X hb1)
  have HI1 := Lib.hid (HST.out _ _ _ HI.out hb1)
  clear ho1 hb1 HCL HI
  go_wp2_with fail
  have hzl : (keepRec f 0 (l.take 0) now s0).1 ++ l.drop 0 = l ∧ (keepRec f 0 (l.take 0) now s0).2 = s0 := by simp [keepRec]
  have HZL := Lib.hid hzl
  clear hzl
  go_loopw [13] (fun i wr => ∃ (k : Nat) (cur : List Kp) (s : Int), k ≤ l.length ∧ k ≤ now.length ∧ i = .int .i64 k ∧ Hid ((keepRec f 0 (l.take k) now s0).1 ++ l.drop k = cur ∧ (keepRec f 0 (l.take k) now s0).2 = s) ∧
    Hid (wr.ownsRow w.heap.size 83 2 v1 l.length (kCells cur)) ∧ Hid (I s wr) ∧ Hid (Below B w wr) ∧ Hid (w.grownBy wr X)) (fun i _ => now.length - (intOf i).toNat)
  case atStart => exact ⟨0, l, s0, by omega, by omega, rfl, HZL, HO1, HI1, HB1, HG1⟩
  case round =>
    obtain ⟨k, cur, s, hkl, hkn, rfl, HE, HO, HI, HW, HG⟩ := hrel
    clear HO1 HI1 HB1 HG1 HZL
    by_cases hlt : k < now.length
    · obtain ⟨bd, rfl, hbd, b0⟩ := HN.out.at' hlt
      have b0' : wr.cell? (bd.add k) = _ := (HW.out.cell (by rw [add_block]; exact hbd)).trans b0
      clear b0
      have i0 : (0 : Int) ≤ (k : Int) := by omega
      have i1 : (k : Int) < (now.length : Int) := by omega
      by_cases hlk : k < l.length
      · have HCK : Hid (cur.getD k (false, []) = l.getD k (false, [])) := Lib.hid (by rw [← HE.out.1]; exact kept_same hlk)
        have HCL : Hid (cur.length = l.length) := Lib.hid (by rw [← HE.out.1, List.length_append, keep_length, List.length_take, List.length_drop]; omega)
        have HNX : Hid ((keepRec f 0 (l.take (k + 1)) now s0).1 ++ l.drop (k + 1) = cur.set k (keepStep f k (l.getD k (false, [])) (now.getD k []) s).1 ∧ (keepRec f 0 (l.take (k + 1)) now s0).2 = (keepStep f k (l.getD k (false, [])) (now.getD k []) s).2) := Lib.hid (by
          rw [kept_set hlk hlt, HE.out.1, HE.out.2, keep_take f hlk hlt, HE.out.2]
          exact ⟨rfl, rfl⟩)
        have n1 : ((k : Int) == (l.length : Int)) = false := by simp; omega
        have n2 : (k == l.length) = false := by simp; omega
        obtain ⟨g, cap, hv, hgb, hgl⟩ := HO.out.form (by omega)
        subst hv
        have hcell := kCells_at cur (k := k) (by rw [HCL.out]; exact hlk)
        rw [HCK.out] at hcell
        have c0 : wr.cell? ⟨g, k * 2, none⟩ = some (.bool (l.getD k (false, [])).1) := (HO.out.cellAt (k * 2) (by omega)).trans hcell.1
        have HSAME : Hid (cur.set k (l.getD k (false, [])) = cur) := Lib.hid (by
          rw [← HCK.out]
          have hk' : k < cur.length := by rw [HCL.out]; exact hlk
          simp [List.getD, hk'])
        have HSET := fun b y => kCells_set cur (k := k) b y (by rw [HCL.out]; exact hlk)
        have HSE := Lib.hid HSET
        clear HSET
        have j1 : (k : Int) < (l.length : Int) := by omega
        generalize l.getD k (false, []) = p at *
        generalize now.getD k [] = x at *
        obtain ⟨b, y⟩ := p
        cases b with
        | true =>
          clear hcell
          dsimp only at c0
          have HR := Lib.hid (HNX.out)
          rw [show keepStep f k (true, y) x s = ((true, y), s) from rfl, HSAME.out] at HR
          go_wp2_with fail
          have R : ∃ (k' : Nat) (cur : List Kp) (s : Int), k' ≤ l.length ∧ k' ≤ now.length ∧ Value.int .i64 ((k : Int) + 1) = .int .i64 k' ∧ Hid ((keepRec f 0 (l.take k') now s0).1 ++ l.drop k' = cur ∧ (keepRec f 0 (l.take k') now s0).2 = s) ∧
              Hid (wr.ownsRow w.heap.size 83 2 (Value.slice (some ⟨g, 0, none⟩) l.length cap) l.length (kCells cur)) ∧ Hid (I s wr) ∧ Hid (Below B w wr) ∧ Hid (w.grownBy wr X) := ⟨k + 1, cur, s, by omega, by omega, by go_num, HR, HO, HI, HW, HG⟩
          exact ⟨R, by simp [intOf]; omega⟩
        | false =>
          dsimp only at c0
          have HCC := Lib.hid (HC.out s wr k x HI.out HG.out.size)
          have HR := Lib.hid (HNX.out)
          have HCE := Lib.hid hcell
          rw [show keepStep f k (false, y) x s = (if (f s k x).1 = true then (true, x) else (false, y), (f s k x).2) from rfl] at HR
          clear hcell
          generalize f s k x = q at *
          obtain ⟨t, s'⟩ := q
          cases t with
          | true =>
            have HR' : Hid ((keepRec f 0 (l.take (k + 1)) now s0).1 ++ l.drop (k + 1) = cur.set k (true, x) ∧ (keepRec f 0 (l.take (k + 1)) now s0).2 = s') := HR
            have HCC' : Hid (Calls Tryz.prog _ #[.int .i64 (k : Nat), S x, .pointer (some ⟨gc, 0, none⟩)] wr fun e W' => e = .returned (.bool true) ∧ I s' W' ∧ wr.grownBy W' X) := HCC
            clear HCC HR
            go_wp2_with ((first | go_at_call 122 | go_at_call 123); refine HCC'.out.mono ?_; rintro e w2 ⟨rfl, hI2, hg2⟩; have HO2 := own_spared HO.out hg2 (fun g h => (HX.out g h).2); have e0 := (HO2.cellAt (k * 2) (by omega)).trans HCE.out.1; have e1 := (HO2.cellAt (k * 2 + 1) (by omega)).trans HCE.out.2; have f0 := HO2.frozenAt (k * 2); have f1 := HO2.frozenAt (k * 2 + 1))
            have hbw : B ≤ wr.heap.size := Nat.le_trans hB HG.out.size
            have HO3 : Hid ((((w2.setCell ⟨g, k * 2, none⟩ (.bool true)).setCell ⟨g, k * 2 + 1, none⟩ (S x))).ownsRow w.heap.size 83 2 (Value.slice (some ⟨g, 0, none⟩) l.length cap) l.length (kCells (cur.set k (true, x)))) := Lib.hid (by
              have := ((HO2.stored (k * 2) (.bool true)).1.stored (k * 2 + 1) (S x)).1
              rwa [HSE.out] at this)
            have HI3 := Lib.hid (HST.out s' w2 ((w2.setCell ⟨g, k * 2, none⟩ (.bool true)).setCell ⟨g, k * 2 + 1, none⟩ (S x)) hI2 (((Below.refl _ _).setCell (p := ⟨g, k * 2, none⟩) hgb _).setCell (p := ⟨g, k * 2 + 1, none⟩) hgb _))
            have HW3 := Lib.hid (((grown_below HW.out hbw hg2 (fun g h => (HX.out g h).1)).setCell (p := ⟨g, k * 2, none⟩) (Nat.le_trans hB hgb) (.bool true)).setCell (p := ⟨g, k * 2 + 1, none⟩) (Nat.le_trans hB hgb) (S x))
            have HG3 := Lib.hid (grown_set (grown_set (grown_trans HG.out hg2) (p := ⟨g, k * 2, none⟩) hgb (.bool true)) (p := ⟨g, k * 2 + 1, none⟩) hgb (S x))
            have R : ∃ (k' : Nat) (cur : List Kp) (s : Int), k' ≤ l.length ∧ k' ≤ now.length ∧ Value.int .i64 ((k : Int) + 1) = .int .i64 k' ∧ Hid ((keepRec f 0 (l.take k') now s0).1 ++ l.drop k' = cur ∧ (keepRec f 0 (l.take k') now s0).2 = s) ∧
                Hid (((w2.setCell ⟨g, k * 2, none⟩ (.bool true)).setCell ⟨g, k * 2 + 1, none⟩ (S x)).ownsRow w.heap.size 83 2 (Value.slice (some ⟨g, 0, none⟩) l.length cap) l.length (kCells cur)) ∧ Hid (I s ((w2.setCell ⟨g, k * 2, none⟩ (.bool true)).setCell ⟨g, k * 2 + 1, none⟩ (S x))) ∧ Hid (Below B w ((w2.setCell ⟨g, k * 2, none⟩ (.bool true)).setCell ⟨g, k * 2 + 1, none⟩ (S x))) ∧ Hid (w.grownBy ((w2.setCell ⟨g, k * 2, none⟩ (.bool true)).setCell ⟨g, k * 2 + 1, none⟩ (S x)) X) := ⟨k + 1, _, s', by omega, by omega, by go_num, HR', HO3, HI3, HW3, HG3⟩
            exact ⟨R, by simp [intOf]; omega⟩
          | false =>
            have HR' : Hid ((keepRec f 0 (l.take (k + 1)) now s0).1 ++ l.drop (k + 1) = cur.set k (false, y) ∧ (keepRec f 0 (l.take (k + 1)) now s0).2 = s') := HR
            rw [HSAME.out] at HR'
            have HCC' : Hid (Calls Tryz.prog _ #[.int .i64 (k : Nat), S x, .pointer (some ⟨gc, 0, none⟩)] wr fun e W' => e = .returned (.bool false) ∧ I s' W' ∧ wr.grownBy W' X) := HCC
            clear HCC HR
            go_wp2_with ((first | go_at_call 122 | go_at_call 123); refine HCC'.out.mono ?_; rintro e w2 ⟨rfl, hI2, hg2⟩)
            have hbw : B ≤ wr.heap.size := Nat.le_trans hB HG.out.size
            have R : ∃ (k' : Nat) (cur : List Kp) (s : Int), k' ≤ l.length ∧ k' ≤ now.length ∧ Value.int .i64 ((k : Int) + 1) = .int .i64 k' ∧ Hid ((keepRec f 0 (l.take k') now s0).1 ++ l.drop k' = cur ∧ (keepRec f 0 (l.take k') now s0).2 = s) ∧
                Hid (w2.ownsRow w.heap.size 83 2 (Value.slice (some ⟨g, 0, none⟩) l.length cap) l.length (kCells cur)) ∧ Hid (I s w2) ∧ Hid (Below B w w2) ∧ Hid (w.grownBy w2 X) := ⟨k + 1, cur, s', by omega, by omega, by go_num, HR', Lib.hid (own_spared HO.out hg2 (fun g h => (HX.out g h).2)), Lib.hid hI2, Lib.hid (grown_below HW.out hbw hg2 (fun g h => (HX.out g h).1)), Lib.hid (grown_trans HG.out hg2)⟩
            exact ⟨R, by simp [intOf]; omega⟩
      · obtain rfl : k = l.length := by omega
        have n1 : ((l.length : Int) == (l.length : Int)) = true := by simp
        have HF : Hid ((keepRec f 0 l now s0).1 = cur ∧ (keepRec f 0 l now s0).2 = s) := Lib.hid (by have := HE.out; simpa using this)
        clear HE
        have HLE : Hid (cur.length = l.length) := Lib.hid (by rw [← HF.out.1, keep_length])
        obtain ⟨G, cc, hv, _, _⟩ := own_shape HO.out (by omega)
        subst hv
        go_wp2_with fail
        go_ret
        unfold KeptPost OwnK
        rw [HF.out.1, HF.out.2, HLE.out]
        exact ⟨⟨_, rfl, HO.out⟩, HI.out, HG.out⟩
    · obtain rfl : k = now.length := by omega
      have hd : decide (now.length < now.length) = false := by simp
      have HF : Hid ((keepRec f 0 l now s0).1 = cur ∧ (keepRec f 0 l now s0).2 = s) := Lib.hid (by
        rw [keep_rest f l now 0 s0 now.length (Nat.le_refl _)]; exact HE.out)
      clear HE
      have HLE : Hid (cur.length = l.length) := Lib.hid (by rw [← HF.out.1, keep_length])
      go_wp2_with fail
      go_ret
      unfold KeptPost OwnK
      rw [HF.out.1, HF.out.2, HLE.out]
      exact ⟨⟨_, rfl, HO.out⟩, HI.out, HG.out⟩
end Go.Proofs.YtmmfcjkabpffeaaGreatDoor
