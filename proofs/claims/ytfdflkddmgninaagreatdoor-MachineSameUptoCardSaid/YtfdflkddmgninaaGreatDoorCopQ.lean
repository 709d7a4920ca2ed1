/-
  Walks: slices.Clone at texts, processes, pipes, writes; machine.copied, machine.Feed. (Printed by gen_copq.py.)
-/
import Derived.Test.YtfdflkddmgninaaGreatDoorSureA
import Derived.Test.YtfdflkddmgninaaGreatDoorRowL
import Derived.Deep.AppendSrc
import Derived.Lib.SliceRun
namespace Go.Proofs.YtfdflkddmgninaaGreatDoor
open Go.RowKit
attribute [local go_sem] concat_S

theorem Tryz.infoPs : (Tryz.prog.info? 44).map (fun i => decide (i.bytes ≤ 10000)) = some true := by kernel_rfl
theorem info_proc : ∃ i, Tryz.prog.info? 44 = some i ∧ i.zero = some (.agg (prCells zeroPr).toArray) ∧ i.size = 96 ∧ i.bytes ≤ 10000 := by
  have h1 := Tryz.infoPr
  have h2 := Tryz.infoPs
  cases hq : Tryz.prog.info? 44 with
  | none => rw [hq] at h1; simp at h1
  | some i => rw [hq] at h1 h2; simp only [Option.map_some, Option.some.injEq, Prod.mk.injEq, decide_eq_true_eq] at h1 h2; exact ⟨i, rfl, h1.1, h1.2, h2⟩
theorem Tryz.infoPi3 : (Tryz.prog.info? 46).map (fun i => (i.zero, i.size, i.bytes)) = some (some (.agg #[.int .i64 0, .string ⟨#[]⟩]), 2, 24) := by kernel_rfl
theorem Tryz.infoWr3 : (Tryz.prog.info? 48).map (fun i => (i.zero, i.size, i.bytes)) = some (some (.agg #[.int .i64 0, .string ⟨#[]⟩]), 2, 24) := by kernel_rfl
theorem own_cap {w : World} {base : Nat} {e : TypeId} {size n c : Nat} {A : Option Addr} {xs : List Value} (h : w.ownsRow base e size (.slice A n c) n xs) : n ≤ c := by
  rcases h.2 with ⟨h, _⟩ | ⟨g, cap, cur, h, _, _, hc, _⟩
  · injection h with _ h1 h2; omega
  · injection h with _ h1 h2; omega
/-- the machine without anything -/
def zeroMc : Mc := ⟨0, 0, 0, 0, [], [], 0, [], [], 0, [], false, 0, [], [], 0, []⟩
def zeroMA : MA := ⟨none, none, none, none, none, none, 0, 0, 0, 0, 0, 0⟩
abbrev zeroML : List Value := mcL zeroMA zeroMc
theorem grown_setK (w : World) (g K : Nat) (v : Value) : w.grownBy (w.setCell ⟨g, K, none⟩ v) (some g) :=
  ⟨rfl, rfl, rfl, by simp [World.setCell], fun k _ hn => Below.heap_setCell _ _ _ _ (by intro e; exact hn (by rw [e]))⟩
theorem results_cell_tmp {P : Program} {fn : Func} {p q : Tmp} {ty : TypeId} (hr : fn.results = #[.cell p ty, .tmp q]) (tmps : Array Value) (w : World) (g : Nat) (t : TypeId) (cs : Array Value) (v : Value) (fr : Nat × Nat) (d : TypeDesc)
    (hp : tmps.getD p undef = .pointer (some ⟨g, 0, none⟩)) (hq : tmps.getD q undef = v) (hg : w.heap[g]? = some (.cells cs t fr))
    (hu : P.underlying ty = some d) (hd : (match d with | .struct _ | .array _ _ => true | _ => false) = true) (hi : (P.info? ty).map (·.size) = some cs.size) :
    (results fn tmps).run P w = .ok (.tuple #[.agg cs, v]) w := by
  have hp' : tmps[p]?.getD undef = .pointer (some ⟨g, 0, none⟩) := by simpa using hp
  have hq' : tmps[q]?.getD undef = v := by simpa using hq
  simp [results, hr, hp', hq', asAddr, run_loadVar_row w g t ty cs fr d hg hu hd hi]
set_option maxRecDepth 100000 in
set_option maxHeartbeats 1000000 in
theorem cloneS_any (w : World) (A : Option Addr) (c : Nat) (ls : List (List UInt8)) (hA : Strs w w.heap.size A ls) (hn : ls.length ≤ 1099511627776) :
    Calls Tryz.prog 28 #[.slice A ls.length c] w fun e w' => (∃ v, e = .returned v ∧ OwnS w' w.heap.size v ls) ∧ Below w.heap.size w w' := by
  obtain ⟨i0, hi0, hz0, hz1, hz2⟩ := info_parts Tryz.infoStr'
  cases A with
  | none =>
    have hls : ls = [] := by
      cases ls with
      | nil => rfl
      | cons l r => obtain ⟨ad, e, _⟩ := hA.at' (k := 0) (by simp); cases e
    subst hls
    have he : ∀ W : World, (binOp .eql 23 (.slice none 0 c) (.slice none 0 0)).run Tryz.prog W = .ok (.bool true) W := fun W => Lib.run_eql_slice_nil W 23 9 none 0 c 0 0 Tryz.underlying23
    go_enter Tryz.func28, Tryz.ntmps28
    go_wp2
    go_ret
    exact ⟨⟨_, rfl, World.ownsRow_nil _ _ _ _⟩, Below.refl _ _⟩
  | some ad =>
    have he : ∀ W : World, (binOp .eql 23 (.slice (some ad) ls.length c) (.slice none 0 0)).run Tryz.prog W = .ok (.bool false) W := fun W => Lib.run_eql_slice_nil W 23 9 (some ad) ls.length c 0 0 Tryz.underlying23
    have HN : Hid (∀ j u, (ls.map S)[j]? = some u → (w.alloc (.cells #[] 9)).cell? (ad.add j) = some u) := Lib.hid (fun j u hu => by
      obtain ⟨ad', e, hb, hc⟩ := hA j u hu
      injection e with e; subst e
      rw [← hc]; exact World.cell?_alloc_lt w _ _ (by rw [add_block]; exact hb))
    have HO : Hid ((w.alloc (.cells #[] 9)).ownsRow w.heap.size 9 1 (.slice (some ⟨w.heap.size, 0, none⟩) 0 0) 0 []) := Lib.hid (World.ownsRow_lit w #[] 0 (Nat.le_refl _) (by unfold maxLen; omega) rfl)
    have H63 : Hid (0 + ls.length ≤ maxLen) := Lib.hid (by unfold maxLen; omega)
    have HBY : Hid ((0 + ls.length) * 16 ≤ 140737488355328) := Lib.hid (by omega)
    have HBA : Hid (w.heap.size ≤ (w.alloc (.cells #[] 9)).heap.size) := Lib.hid (by simp)
    clear hA
    go_enter Tryz.func28, Tryz.ntmps28
    go_wp2_with (at_builtin; refine wpList_append_own _ rfl (.tmp 5) (.tmp 6) 23 rfl w.heap.size 9 i0 _ 1 16 Tryz.underlying23 hi0 hz0 hz1 hz2 rfl (by decide) _ _ _ rfl HO.out ad ls.length c (ls.map S) rfl (by simp) HN.out (S_one _) H63.out HBY.out HBA.out ?_; intro v' w1 hown' hgrow _)
    go_ret
    refine ⟨⟨_, rfl, by simpa using hown'⟩, ?_⟩
    exact ((Below.refl _ _).alloc (Nat.le_refl _) _).grown hgrow HBA.out (own_ge HO.out)
/-- a list in a memory from the block B on -/
def NewL (B : Nat) (W : World) (X : Option Addr) (xs : List Value) : Prop := Lies W W.heap.size X xs ∧ ∀ ad, X = some ad → B ≤ ad.block
theorem NewL.below {B : Nat} {W W' : World} {X : Option Addr} {xs : List Value} (h : NewL B W X xs) (hb : Below W.heap.size W W') : NewL B W' X xs := ⟨(Lies.below h.1 hb).wide hb.size, h.2⟩
theorem NewL.one {B q : Nat} {W W' : World} {X : Option Addr} {xs : List Value} (h : NewL B W X xs) (hk : W.grownBy W' (some q)) (hq : q < B) : NewL B W' X xs := ⟨fun k v hv => by
  obtain ⟨ad, e, hb, hc⟩ := h.1 k v hv
  refine ⟨ad, e, Nat.lt_of_lt_of_le hb hk.size, ?_⟩
  rw [← hc]
  unfold World.cell?
  rw [add_block, hk.block ad.block hb (by have := h.2 ad e; intro e2; injection e2 with e2; omega)], h.2⟩
theorem NewL.set {B q K : Nat} {W : World} {X : Option Addr} {xs : List Value} {v : Value} (h : NewL B W X xs) (hq : q < B) : NewL B (W.setCell ⟨q, K, none⟩ v) X xs := h.one (grown_setK W q K v) hq
theorem lies_nil {α : Type} {f : α → List Value} {w : World} {B : Nat} {l : List α} (h : Lies w B none (l.flatMap f)) (hf : ∀ x ∈ l, f x ≠ []) : l = [] := by
  cases l with
  | nil => rfl
  | cons x l =>
    rw [List.flatMap_cons] at h
    have hx := hf x (by simp)
    cases hq : f x with
    | nil => exact absurd hq hx
    | cons v r =>
      rw [hq] at h
      obtain ⟨ad, e, _⟩ := h 0 v rfl
      cases e
set_option maxRecDepth 100000 in
set_option maxHeartbeats 1000000 in
theorem clonePr_any (w : World) (A : Option Addr) (c : Nat) (ls : List Pr) (hok : ∀ p ∈ ls, PrOk p) (hA : Lies w w.heap.size A (prsCells ls)) (hn : ls.length ≤ 4294967296) :
    Calls Tryz.prog 29 #[.slice A ls.length c] w fun e w' => (∃ v, e = .returned v ∧ w'.ownsRow w.heap.size 44 96 v ls.length (prsCells ls)) ∧ Below w.heap.size w w' := by
  obtain ⟨i0, hi0, hz0, hz1, hz2⟩ := info_proc
  have hlen : (prsCells ls).length = ls.length * 96 := prsCells_length hok
  have hone := prsCells_one ls
  cases A with
  | none =>
    have hls : ls = [] := lies_nil hA fun x hx e => by have := prCells_length (hok x hx); rw [e] at this; simp at this
    subst hls
    have he : ∀ W : World, (binOp .eql 24 (.slice none 0 c) (.slice none 0 0)).run Tryz.prog W = .ok (.bool true) W := fun W => Lib.run_eql_slice_nil W 24 44 none 0 c 0 0 Tryz.underlying24
    go_enter Tryz.func29, Tryz.ntmps29
    go_wp2
    go_ret
    exact ⟨⟨_, rfl, World.ownsRow_nil _ _ _ _⟩, Below.refl _ _⟩
  | some ad =>
    have he : ∀ W : World, (binOp .eql 24 (.slice (some ad) ls.length c) (.slice none 0 0)).run Tryz.prog W = .ok (.bool false) W := fun W => Lib.run_eql_slice_nil W 24 44 (some ad) ls.length c 0 0 Tryz.underlying24
    have HN : Hid (∀ j u, (prsCells ls)[j]? = some u → (w.alloc (.cells #[] 44)).cell? (ad.add j) = some u) := Lib.hid (fun j u hu => by
      obtain ⟨ad', e, hb, hc⟩ := hA j u hu
      injection e with e; subst e
      rw [← hc]; exact World.cell?_alloc_lt w _ _ (by rw [add_block]; exact hb))
    have HO : Hid ((w.alloc (.cells #[] 44)).ownsRow w.heap.size 44 96 (.slice (some ⟨w.heap.size, 0, none⟩) 0 0) 0 []) := Lib.hid (World.ownsRow_lit w #[] 0 (Nat.le_refl _) (by unfold maxLen; omega) rfl)
    have H63 : Hid (0 + ls.length ≤ maxLen) := Lib.hid (by unfold maxLen; omega)
    have HBY : Hid ((0 + ls.length) * i0.bytes ≤ 140737488355328) := Lib.hid (by rw [Nat.zero_add]; exact Nat.le_trans (Nat.mul_le_mul hn hz2) (by decide))
    have HBA : Hid (w.heap.size ≤ (w.alloc (.cells #[] 44)).heap.size) := Lib.hid (by simp)
    clear hA
    go_enter Tryz.func29, Tryz.ntmps29
    go_wp2_with (at_builtin; refine wpList_append_own _ rfl (.tmp 5) (.tmp 6) 24 rfl w.heap.size 44 i0 _ 96 _ Tryz.underlying24 hi0 hz0 hz1 rfl (by kernel_rfl) (by decide) _ _ _ rfl HO.out ad ls.length c (prsCells ls) rfl hlen HN.out hone H63.out HBY.out HBA.out ?_; intro v' w1 hown' hgrow _)
    go_ret
    refine ⟨⟨_, rfl, by simpa using hown'⟩, ?_⟩
    exact ((Below.refl _ _).alloc (Nat.le_refl _) _).grown hgrow HBA.out (own_ge HO.out)
set_option maxRecDepth 100000 in
set_option maxHeartbeats 1000000 in
theorem clonePi_any (w : World) (A : Option Addr) (c : Nat) (ls : List Nb) (hA : Lies w w.heap.size A (nbCells ls)) (hn : ls.length ≤ 1099511627776) :
    Calls Tryz.prog 30 #[.slice A ls.length c] w fun e w' => (∃ v, e = .returned v ∧ w'.ownsRow w.heap.size 46 2 v ls.length (nbCells ls)) ∧ Below w.heap.size w w' := by
  obtain ⟨i0, hi0, hz0, hz1, hz2⟩ := info_parts Tryz.infoPi3
  have hlen : (nbCells ls).length = ls.length * 2 := nbCells_length ls
  have hone := nbCells_one ls
  cases A with
  | none =>
    have hls : ls = [] := lies_nil hA fun x hx e => by cases e
    subst hls
    have he : ∀ W : World, (binOp .eql 25 (.slice none 0 c) (.slice none 0 0)).run Tryz.prog W = .ok (.bool true) W := fun W => Lib.run_eql_slice_nil W 25 46 none 0 c 0 0 Tryz.underlying25
    go_enter Tryz.func30, Tryz.ntmps30
    go_wp2
    go_ret
    exact ⟨⟨_, rfl, World.ownsRow_nil _ _ _ _⟩, Below.refl _ _⟩
  | some ad =>
    have he : ∀ W : World, (binOp .eql 25 (.slice (some ad) ls.length c) (.slice none 0 0)).run Tryz.prog W = .ok (.bool false) W := fun W => Lib.run_eql_slice_nil W 25 46 (some ad) ls.length c 0 0 Tryz.underlying25
    have HN : Hid (∀ j u, (nbCells ls)[j]? = some u → (w.alloc (.cells #[] 46)).cell? (ad.add j) = some u) := Lib.hid (fun j u hu => by
      obtain ⟨ad', e, hb, hc⟩ := hA j u hu
      injection e with e; subst e
      rw [← hc]; exact World.cell?_alloc_lt w _ _ (by rw [add_block]; exact hb))
    have HO : Hid ((w.alloc (.cells #[] 46)).ownsRow w.heap.size 46 2 (.slice (some ⟨w.heap.size, 0, none⟩) 0 0) 0 []) := Lib.hid (World.ownsRow_lit w #[] 0 (Nat.le_refl _) (by unfold maxLen; omega) rfl)
    have H63 : Hid (0 + ls.length ≤ maxLen) := Lib.hid (by unfold maxLen; omega)
    have HBY : Hid ((0 + ls.length) * i0.bytes ≤ 140737488355328) := Lib.hid (by rw [hz2]; omega)
    have HBA : Hid (w.heap.size ≤ (w.alloc (.cells #[] 46)).heap.size) := Lib.hid (by simp)
    clear hA
    go_enter Tryz.func30, Tryz.ntmps30
    go_wp2_with (at_builtin; refine wpList_append_own _ rfl (.tmp 5) (.tmp 6) 25 rfl w.heap.size 46 i0 _ 2 _ Tryz.underlying25 hi0 hz0 hz1 rfl (by kernel_rfl) (by decide) _ _ _ rfl HO.out ad ls.length c (nbCells ls) rfl hlen HN.out hone H63.out HBY.out HBA.out ?_; intro v' w1 hown' hgrow _)
    go_ret
    refine ⟨⟨_, rfl, by simpa using hown'⟩, ?_⟩
    exact ((Below.refl _ _).alloc (Nat.le_refl _) _).grown hgrow HBA.out (own_ge HO.out)
set_option maxRecDepth 100000 in
set_option maxHeartbeats 1000000 in
theorem cloneWr_any (w : World) (A : Option Addr) (c : Nat) (ls : List Nb) (hA : Lies w w.heap.size A (nbCells ls)) (hn : ls.length ≤ 1099511627776) :
    Calls Tryz.prog 31 #[.slice A ls.length c] w fun e w' => (∃ v, e = .returned v ∧ w'.ownsRow w.heap.size 48 2 v ls.length (nbCells ls)) ∧ Below w.heap.size w w' := by
  obtain ⟨i0, hi0, hz0, hz1, hz2⟩ := info_parts Tryz.infoWr3
  have hlen : (nbCells ls).length = ls.length * 2 := nbCells_length ls
  have hone := nbCells_one ls
  cases A with
  | none =>
    have hls : ls = [] := lies_nil hA fun x hx e => by cases e
    subst hls
    have he : ∀ W : World, (binOp .eql 26 (.slice none 0 c) (.slice none 0 0)).run Tryz.prog W = .ok (.bool true) W := fun W => Lib.run_eql_slice_nil W 26 48 none 0 c 0 0 Tryz.underlying26
    go_enter Tryz.func31, Tryz.ntmps31
    go_wp2
    go_ret
    exact ⟨⟨_, rfl, World.ownsRow_nil _ _ _ _⟩, Below.refl _ _⟩
  | some ad =>
    have he : ∀ W : World, (binOp .eql 26 (.slice (some ad) ls.length c) (.slice none 0 0)).run Tryz.prog W = .ok (.bool false) W := fun W => Lib.run_eql_slice_nil W 26 48 (some ad) ls.length c 0 0 Tryz.underlying26
    have HN : Hid (∀ j u, (nbCells ls)[j]? = some u → (w.alloc (.cells #[] 48)).cell? (ad.add j) = some u) := Lib.hid (fun j u hu => by
      obtain ⟨ad', e, hb, hc⟩ := hA j u hu
      injection e with e; subst e
      rw [← hc]; exact World.cell?_alloc_lt w _ _ (by rw [add_block]; exact hb))
    have HO : Hid ((w.alloc (.cells #[] 48)).ownsRow w.heap.size 48 2 (.slice (some ⟨w.heap.size, 0, none⟩) 0 0) 0 []) := Lib.hid (World.ownsRow_lit w #[] 0 (Nat.le_refl _) (by unfold maxLen; omega) rfl)
    have H63 : Hid (0 + ls.length ≤ maxLen) := Lib.hid (by unfold maxLen; omega)
    have HBY : Hid ((0 + ls.length) * i0.bytes ≤ 140737488355328) := Lib.hid (by rw [hz2]; omega)
    have HBA : Hid (w.heap.size ≤ (w.alloc (.cells #[] 48)).heap.size) := Lib.hid (by simp)
    clear hA
    go_enter Tryz.func31, Tryz.ntmps31
    go_wp2_with (at_builtin; refine wpList_append_own _ rfl (.tmp 5) (.tmp 6) 26 rfl w.heap.size 48 i0 _ 2 _ Tryz.underlying26 hi0 hz0 hz1 rfl (by kernel_rfl) (by decide) _ _ _ rfl HO.out ad ls.length c (nbCells ls) rfl hlen HN.out hone H63.out HBY.out HBA.out ?_; intro v' w1 hown' hgrow _)
    go_ret
    refine ⟨⟨_, rfl, by simpa using hown'⟩, ?_⟩
    exact ((Below.refl _ _).alloc (Nat.le_refl _) _).grown hgrow HBA.out (own_ge HO.out)
/-- what copied gives -/
def OwnM (B : Nat) (W : World) (a : MA) (m : Mc) : Prop := NewL B W a.F (m.frames.map S) ∧ NewL B W a.P (prsCells m.procs) ∧ NewL B W a.Q (nbCells m.pipes) ∧ NewL B W a.L (m.blocks.map S) ∧ NewL B W a.N (nbCells m.pend) ∧ NewL B W a.D (nbCells m.dirty)
def CapM (a : MA) (m : Mc) : Prop := m.frames.length ≤ a.cF ∧ m.procs.length ≤ a.cP ∧ m.pipes.length ≤ a.cQ ∧ m.blocks.length ≤ a.cL ∧ m.pend.length ≤ a.cN ∧ m.dirty.length ≤ a.cD
theorem OwnM.at {B : Nat} {W : World} {a : MA} {m : Mc} (h : OwnM B W a m) (hc : CapM a m) : MAt W W.heap.size a m := ⟨h.1.1, h.2.1.1, h.2.2.1.1, h.2.2.2.1.1, h.2.2.2.2.1.1, h.2.2.2.2.2.1, hc⟩
theorem OwnM.one {B q : Nat} {W W' : World} {a : MA} {m : Mc} (h : OwnM B W a m) (hk : W.grownBy W' (some q)) (hq : q < B) : OwnM B W' a m := ⟨h.1.one hk hq, h.2.1.one hk hq, h.2.2.1.one hk hq, h.2.2.2.1.one hk hq, h.2.2.2.2.1.one hk hq, h.2.2.2.2.2.one hk hq⟩
theorem OwnM.below {B : Nat} {W W' : World} {a : MA} {m : Mc} (h : OwnM B W a m) (hb : Below W.heap.size W W') : OwnM B W' a m := ⟨h.1.below hb, h.2.1.below hb, h.2.2.1.below hb, h.2.2.2.1.below hb, h.2.2.2.2.1.below hb, h.2.2.2.2.2.below hb⟩
def CopyPost (w : World) (m : Mc) (e : Ending) (w' : World) : Prop :=
  (∃ a : MA, e = .returned (.agg (mcL a m).toArray) ∧ OwnM w.heap.size w' a m ∧ CapM a m) ∧ Below w.heap.size w w'
set_option maxRecDepth 100000 in
set_option maxHeartbeats 4000000 in
theorem copied_any (w : World) (a : MA) (m : Mc) (hm : McOk m) (hprl : m.procs.length ≤ 4294967296) (hpil : m.pipes.length ≤ 1099511627776) (hA : MAt w w.heap.size a m) :
    Calls Tryz.prog 18 #[.agg (mcL a m).toArray] w (CopyPost w m) := by
  have hs0 := (Whole.made w 30 (mcL a m).toArray).block (.cells #[.int .u64 0, .int .i64 0, .int .i64 0, .int .i64 0, .slice none 0 0, .slice none 0 0, .int .i64 0, S [], .slice none 0 0, .int .i64 0, S [], .bool false, .int .u64 0, .slice none 0 0, .slice none 0 0, .int .i64 0, .slice none 0 0] 30)
  have hs1 := Whole.made (w.alloc (.cells (mcL a m).toArray 30)) 30 #[.int .u64 0, .int .i64 0, .int .i64 0, .int .i64 0, .slice none 0 0, .slice none 0 0, .int .i64 0, S [], .slice none 0 0, .int .i64 0, S [], .bool false, .int .u64 0, .slice none 0 0, .slice none 0 0, .int .i64 0, .slice none 0 0]
  rw [show (w.alloc (.cells (mcL a m).toArray 30)).heap.size = w.heap.size + 1 by simp] at hs1
  have hb : Below w.heap.size w ((w.alloc (.cells (mcL a m).toArray 30)).alloc (.cells #[.int .u64 0, .int .i64 0, .int .i64 0, .int .i64 0, .slice none 0 0, .slice none 0 0, .int .i64 0, S [], .slice none 0 0, .int .i64 0, S [], .bool false, .int .u64 0, .slice none 0 0, .slice none 0 0, .int .i64 0, .slice none 0 0] 30)) := ((Below.refl _ _).alloc (by first | exact Nat.le_refl _ | simp | (simp; omega)) _).alloc (by first | exact Nat.le_refl _ | simp | (simp; omega)) _
  go_enter Tryz.func18, Tryz.ntmps18
  go_upto_region 1 with (fail)
  change Code.wp _ _ _ _ ((w.alloc (.cells (mcL a m).toArray 30)).alloc (.cells #[.int .u64 0, .int .i64 0, .int .i64 0, .int .i64 0, .slice none 0 0, .slice none 0 0, .int .i64 0, S [], .slice none 0 0, .int .i64 0, S [], .bool false, .int .u64 0, .slice none 0 0, .slice none 0 0, .int .i64 0, .slice none 0 0] 30))
  generalize ((w.alloc (.cells (mcL a m).toArray 30)).alloc (.cells #[.int .u64 0, .int .i64 0, .int .i64 0, .int .i64 0, .slice none 0 0, .slice none 0 0, .int .i64 0, S [], .slice none 0 0, .int .i64 0, S [], .bool false, .int .u64 0, .slice none 0 0, .slice none 0 0, .int .i64 0, .slice none 0 0] 30)) = w1 at *
  generalize hgx : w.heap.size = gx at *
  have HGX := Lib.hid hgx
  have HS0 := Lib.hid hs0
  have HS1 := Lib.hid hs1
  have HW := Lib.hid hb
  have hgl : gx + 1 < w1.heap.size := hs1.lt
  clear hgx hb hs0 hs1
  have HZ1 : Hid (Whole w1 (gx + 1) 30 zeroML.toArray) := Lib.hid HS1.out
  clear HS1
  have HA : Hid (MAt w gx a m) := Lib.hid hA
  have HM := Lib.hid hm
  have HV1 := HW
  have HB1 := HS0
  clear hA HS0
  have c0 : w1.cell? ⟨gx, 4, none⟩ = some (.slice a.F m.frames.length a.cF) := HB1.out.cell 4
  have hs1 : gx + 2 ≤ w1.heap.size := by omega
  have CX := Lib.hid (cloneS_any w1 a.F a.cF m.frames (Lies.wide (HA.out.below (HV1.out)).F (by omega)) (by have := hm.sizes.1; omega))
  go_wp2_with fail
  refine CX.out.mono ?_
  rintro e w2 ⟨⟨v, rfl, ho⟩, hb⟩
  obtain ⟨X0, d0, rfl, hl, hg⟩ := own_shape ho (by decide)
  have CP0 := Lib.hid (own_cap ho)
  have HV2 := Lib.hid (HV1.out.trans (hb.mono (by omega)))
  have HB2 := Lib.hid (HB1.out.below hb HB1.out.lt)
  have HZ2 := Lib.hid (HZ1.out.below hb HZ1.out.lt)
  have NL0x2 : Hid (NewL (gx + 2) w2 X0 (m.frames.map S)) := Lib.hid ⟨hl, fun ad e => Nat.le_trans hs1 (hg ad e)⟩
  have hs2 : gx + 2 ≤ w2.heap.size := Nat.le_trans hs1 hb.size
  have c1 : w2.cell? ⟨gx, 4, none⟩ = some (.slice a.F m.frames.length a.cF) := HB2.out.cell 4
  have y1 : w2.frozen? ⟨gx, 4, none⟩ = false := HB2.out.free 4
  clear hl hg ho hb CX c0 HV1 HB1 HZ1 hs1 
  have HB3 : Hid (Whole (w2.setCell ⟨gx, 4, none⟩ (.slice X0 m.frames.length d0)) gx 30 (mcL ({ a with F := X0, cF := d0 } : MA) m).toArray) := Lib.hid (HB2.out.set 4 (.slice X0 m.frames.length d0))
  have HZ3 := Lib.hid (HZ2.out.far (p := ⟨gx, 4, none⟩) (by show gx + 1 ≠ gx; omega) (.slice X0 m.frames.length d0))
  have HV3 := Lib.hid (HV2.out.setCell (p := ⟨gx, 4, none⟩) (Nat.le_refl _) (.slice X0 m.frames.length d0))
  have hsz3 : gx + 2 ≤ (w2.setCell ⟨gx, 4, none⟩ (.slice X0 m.frames.length d0)).heap.size := by simpa [World.setCell] using hs2
  have NL0x3 := Lib.hid (NL0x2.out.set (q := gx) (K := 4) (v := .slice X0 m.frames.length d0) (by omega))
  go_upto_region 2 with (fail)
  clear c1 y1 HV2 HB2 HZ2 hs2 NL0x2
  generalize (w2.setCell ⟨gx, 4, none⟩ (.slice X0 m.frames.length d0)) = w3 at *
  have c0 : w3.cell? ⟨gx, 5, none⟩ = some (.slice a.P m.procs.length a.cP) := HB3.out.cell 5
  have hs3 : gx + 2 ≤ w3.heap.size := hsz3
  have CX := Lib.hid (clonePr_any w3 a.P a.cP m.procs HM.out.procs (Lies.wide (HA.out.below (HV3.out)).P (by omega)) (hprl))
  go_wp2_with fail
  refine CX.out.mono ?_
  rintro e w4 ⟨⟨v, rfl, ho⟩, hb⟩
  obtain ⟨X1, d1, rfl, hl, hg⟩ := own_shape ho (by decide)
  have CP1 := Lib.hid (own_cap ho)
  have HV4 := Lib.hid (HV3.out.trans (hb.mono (by omega)))
  have HB4 := Lib.hid (HB3.out.below hb HB3.out.lt)
  have HZ4 := Lib.hid (HZ3.out.below hb HZ3.out.lt)
  have NL1x4 : Hid (NewL (gx + 2) w4 X1 (prsCells m.procs)) := Lib.hid ⟨hl, fun ad e => Nat.le_trans hs3 (hg ad e)⟩
  have NL0x4 := Lib.hid (NL0x3.out.below hb)
  have hs4 : gx + 2 ≤ w4.heap.size := Nat.le_trans hs3 hb.size
  have c1 : w4.cell? ⟨gx, 5, none⟩ = some (.slice a.P m.procs.length a.cP) := HB4.out.cell 5
  have y1 : w4.frozen? ⟨gx, 5, none⟩ = false := HB4.out.free 5
  clear hl hg ho hb CX c0 HV3 HB3 HZ3 hs3 hsz3 NL0x3
  have HB5 : Hid (Whole (w4.setCell ⟨gx, 5, none⟩ (.slice X1 m.procs.length d1)) gx 30 (mcL ({ a with F := X0, cF := d0, P := X1, cP := d1 } : MA) m).toArray) := Lib.hid (HB4.out.set 5 (.slice X1 m.procs.length d1))
  have HZ5 := Lib.hid (HZ4.out.far (p := ⟨gx, 5, none⟩) (by show gx + 1 ≠ gx; omega) (.slice X1 m.procs.length d1))
  have HV5 := Lib.hid (HV4.out.setCell (p := ⟨gx, 5, none⟩) (Nat.le_refl _) (.slice X1 m.procs.length d1))
  have hsz5 : gx + 2 ≤ (w4.setCell ⟨gx, 5, none⟩ (.slice X1 m.procs.length d1)).heap.size := by simpa [World.setCell] using hs4
  have NL0x5 := Lib.hid (NL0x4.out.set (q := gx) (K := 5) (v := .slice X1 m.procs.length d1) (by omega))
  have NL1x5 := Lib.hid (NL1x4.out.set (q := gx) (K := 5) (v := .slice X1 m.procs.length d1) (by omega))
  go_upto_region 3 with (fail)
  clear c1 y1 HV4 HB4 HZ4 hs4 NL0x4 NL1x4
  generalize (w4.setCell ⟨gx, 5, none⟩ (.slice X1 m.procs.length d1)) = w5 at *
  have c0 : w5.cell? ⟨gx, 8, none⟩ = some (.slice a.Q m.pipes.length a.cQ) := HB5.out.cell 8
  have hs5 : gx + 2 ≤ w5.heap.size := hsz5
  have CX := Lib.hid (clonePi_any w5 a.Q a.cQ m.pipes (Lies.wide (HA.out.below (HV5.out)).Q (by omega)) (by omega))
  go_wp2_with fail
  refine CX.out.mono ?_
  rintro e w6 ⟨⟨v, rfl, ho⟩, hb⟩
  obtain ⟨X2, d2, rfl, hl, hg⟩ := own_shape ho (by decide)
  have CP2 := Lib.hid (own_cap ho)
  have HV6 := Lib.hid (HV5.out.trans (hb.mono (by omega)))
  have HB6 := Lib.hid (HB5.out.below hb HB5.out.lt)
  have HZ6 := Lib.hid (HZ5.out.below hb HZ5.out.lt)
  have NL2x6 : Hid (NewL (gx + 2) w6 X2 (nbCells m.pipes)) := Lib.hid ⟨hl, fun ad e => Nat.le_trans hs5 (hg ad e)⟩
  have NL0x6 := Lib.hid (NL0x5.out.below hb)
  have NL1x6 := Lib.hid (NL1x5.out.below hb)
  have hs6 : gx + 2 ≤ w6.heap.size := Nat.le_trans hs5 hb.size
  have c1 : w6.cell? ⟨gx, 8, none⟩ = some (.slice a.Q m.pipes.length a.cQ) := HB6.out.cell 8
  have y1 : w6.frozen? ⟨gx, 8, none⟩ = false := HB6.out.free 8
  clear hl hg ho hb CX c0 HV5 HB5 HZ5 hs5 hsz5 NL0x5 NL1x5
  have HB7 : Hid (Whole (w6.setCell ⟨gx, 8, none⟩ (.slice X2 m.pipes.length d2)) gx 30 (mcL ({ a with F := X0, cF := d0, P := X1, cP := d1, Q := X2, cQ := d2 } : MA) m).toArray) := Lib.hid (HB6.out.set 8 (.slice X2 m.pipes.length d2))
  have HZ7 := Lib.hid (HZ6.out.far (p := ⟨gx, 8, none⟩) (by show gx + 1 ≠ gx; omega) (.slice X2 m.pipes.length d2))
  have HV7 := Lib.hid (HV6.out.setCell (p := ⟨gx, 8, none⟩) (Nat.le_refl _) (.slice X2 m.pipes.length d2))
  have hsz7 : gx + 2 ≤ (w6.setCell ⟨gx, 8, none⟩ (.slice X2 m.pipes.length d2)).heap.size := by simpa [World.setCell] using hs6
  have NL0x7 := Lib.hid (NL0x6.out.set (q := gx) (K := 8) (v := .slice X2 m.pipes.length d2) (by omega))
  have NL1x7 := Lib.hid (NL1x6.out.set (q := gx) (K := 8) (v := .slice X2 m.pipes.length d2) (by omega))
  have NL2x7 := Lib.hid (NL2x6.out.set (q := gx) (K := 8) (v := .slice X2 m.pipes.length d2) (by omega))
  go_upto_region 4 with (fail)
  clear c1 y1 HV6 HB6 HZ6 hs6 NL0x6 NL1x6 NL2x6
  generalize (w6.setCell ⟨gx, 8, none⟩ (.slice X2 m.pipes.length d2)) = w7 at *
  have c0 : w7.cell? ⟨gx, 13, none⟩ = some (.slice a.L m.blocks.length a.cL) := HB7.out.cell 13
  have hs7 : gx + 2 ≤ w7.heap.size := hsz7
  have CX := Lib.hid (cloneS_any w7 a.L a.cL m.blocks (Lies.wide (HA.out.below (HV7.out)).L (by omega)) (by have := hm.sizes.2.2.2.1; omega))
  go_wp2_with fail
  refine CX.out.mono ?_
  rintro e w8 ⟨⟨v, rfl, ho⟩, hb⟩
  obtain ⟨X3, d3, rfl, hl, hg⟩ := own_shape ho (by decide)
  have CP3 := Lib.hid (own_cap ho)
  have HV8 := Lib.hid (HV7.out.trans (hb.mono (by omega)))
  have HB8 := Lib.hid (HB7.out.below hb HB7.out.lt)
  have HZ8 := Lib.hid (HZ7.out.below hb HZ7.out.lt)
  have NL3x8 : Hid (NewL (gx + 2) w8 X3 (m.blocks.map S)) := Lib.hid ⟨hl, fun ad e => Nat.le_trans hs7 (hg ad e)⟩
  have NL0x8 := Lib.hid (NL0x7.out.below hb)
  have NL1x8 := Lib.hid (NL1x7.out.below hb)
  have NL2x8 := Lib.hid (NL2x7.out.below hb)
  have hs8 : gx + 2 ≤ w8.heap.size := Nat.le_trans hs7 hb.size
  have c1 : w8.cell? ⟨gx, 13, none⟩ = some (.slice a.L m.blocks.length a.cL) := HB8.out.cell 13
  have y1 : w8.frozen? ⟨gx, 13, none⟩ = false := HB8.out.free 13
  clear hl hg ho hb CX c0 HV7 HB7 HZ7 hs7 hsz7 NL0x7 NL1x7 NL2x7
  have HB9 : Hid (Whole (w8.setCell ⟨gx, 13, none⟩ (.slice X3 m.blocks.length d3)) gx 30 (mcL ({ a with F := X0, cF := d0, P := X1, cP := d1, Q := X2, cQ := d2, L := X3, cL := d3 } : MA) m).toArray) := Lib.hid (HB8.out.set 13 (.slice X3 m.blocks.length d3))
  have HZ9 := Lib.hid (HZ8.out.far (p := ⟨gx, 13, none⟩) (by show gx + 1 ≠ gx; omega) (.slice X3 m.blocks.length d3))
  have HV9 := Lib.hid (HV8.out.setCell (p := ⟨gx, 13, none⟩) (Nat.le_refl _) (.slice X3 m.blocks.length d3))
  have hsz9 : gx + 2 ≤ (w8.setCell ⟨gx, 13, none⟩ (.slice X3 m.blocks.length d3)).heap.size := by simpa [World.setCell] using hs8
  have NL0x9 := Lib.hid (NL0x8.out.set (q := gx) (K := 13) (v := .slice X3 m.blocks.length d3) (by omega))
  have NL1x9 := Lib.hid (NL1x8.out.set (q := gx) (K := 13) (v := .slice X3 m.blocks.length d3) (by omega))
  have NL2x9 := Lib.hid (NL2x8.out.set (q := gx) (K := 13) (v := .slice X3 m.blocks.length d3) (by omega))
  have NL3x9 := Lib.hid (NL3x8.out.set (q := gx) (K := 13) (v := .slice X3 m.blocks.length d3) (by omega))
  go_upto_region 5 with (fail)
  clear c1 y1 HV8 HB8 HZ8 hs8 NL0x8 NL1x8 NL2x8 NL3x8
  generalize (w8.setCell ⟨gx, 13, none⟩ (.slice X3 m.blocks.length d3)) = w9 at *
  have c0 : w9.cell? ⟨gx, 14, none⟩ = some (.slice a.N m.pend.length a.cN) := HB9.out.cell 14
  have hs9 : gx + 2 ≤ w9.heap.size := hsz9
  have CX := Lib.hid (cloneWr_any w9 a.N a.cN m.pend (Lies.wide (HA.out.below (HV9.out)).N (by omega)) (by have := hm.sizes.2.2.2.2.1; omega))
  go_wp2_with fail
  refine CX.out.mono ?_
  rintro e w10 ⟨⟨v, rfl, ho⟩, hb⟩
  obtain ⟨X4, d4, rfl, hl, hg⟩ := own_shape ho (by decide)
  have CP4 := Lib.hid (own_cap ho)
  have HV10 := Lib.hid (HV9.out.trans (hb.mono (by omega)))
  have HB10 := Lib.hid (HB9.out.below hb HB9.out.lt)
  have HZ10 := Lib.hid (HZ9.out.below hb HZ9.out.lt)
  have NL4x10 : Hid (NewL (gx + 2) w10 X4 (nbCells m.pend)) := Lib.hid ⟨hl, fun ad e => Nat.le_trans hs9 (hg ad e)⟩
  have NL0x10 := Lib.hid (NL0x9.out.below hb)
  have NL1x10 := Lib.hid (NL1x9.out.below hb)
  have NL2x10 := Lib.hid (NL2x9.out.below hb)
  have NL3x10 := Lib.hid (NL3x9.out.below hb)
  have hs10 : gx + 2 ≤ w10.heap.size := Nat.le_trans hs9 hb.size
  have c1 : w10.cell? ⟨gx, 14, none⟩ = some (.slice a.N m.pend.length a.cN) := HB10.out.cell 14
  have y1 : w10.frozen? ⟨gx, 14, none⟩ = false := HB10.out.free 14
  clear hl hg ho hb CX c0 HV9 HB9 HZ9 hs9 hsz9 NL0x9 NL1x9 NL2x9 NL3x9
  have HB11 : Hid (Whole (w10.setCell ⟨gx, 14, none⟩ (.slice X4 m.pend.length d4)) gx 30 (mcL ({ a with F := X0, cF := d0, P := X1, cP := d1, Q := X2, cQ := d2, L := X3, cL := d3, N := X4, cN := d4 } : MA) m).toArray) := Lib.hid (HB10.out.set 14 (.slice X4 m.pend.length d4))
  have HZ11 := Lib.hid (HZ10.out.far (p := ⟨gx, 14, none⟩) (by show gx + 1 ≠ gx; omega) (.slice X4 m.pend.length d4))
  have HV11 := Lib.hid (HV10.out.setCell (p := ⟨gx, 14, none⟩) (Nat.le_refl _) (.slice X4 m.pend.length d4))
  have hsz11 : gx + 2 ≤ (w10.setCell ⟨gx, 14, none⟩ (.slice X4 m.pend.length d4)).heap.size := by simpa [World.setCell] using hs10
  have NL0x11 := Lib.hid (NL0x10.out.set (q := gx) (K := 14) (v := .slice X4 m.pend.length d4) (by omega))
  have NL1x11 := Lib.hid (NL1x10.out.set (q := gx) (K := 14) (v := .slice X4 m.pend.length d4) (by omega))
  have NL2x11 := Lib.hid (NL2x10.out.set (q := gx) (K := 14) (v := .slice X4 m.pend.length d4) (by omega))
  have NL3x11 := Lib.hid (NL3x10.out.set (q := gx) (K := 14) (v := .slice X4 m.pend.length d4) (by omega))
  have NL4x11 := Lib.hid (NL4x10.out.set (q := gx) (K := 14) (v := .slice X4 m.pend.length d4) (by omega))
  go_upto_region 6 with (fail)
  clear c1 y1 HV10 HB10 HZ10 hs10 NL0x10 NL1x10 NL2x10 NL3x10 NL4x10
  generalize (w10.setCell ⟨gx, 14, none⟩ (.slice X4 m.pend.length d4)) = w11 at *
  have c0 : w11.cell? ⟨gx, 16, none⟩ = some (.slice a.D m.dirty.length a.cD) := HB11.out.cell 16
  have hs11 : gx + 2 ≤ w11.heap.size := hsz11
  have CX := Lib.hid (cloneWr_any w11 a.D a.cD m.dirty (Lies.wide (HA.out.below (HV11.out)).D (by omega)) (by have := hm.sizes.2.2.2.2.2; omega))
  go_wp2_with fail
  refine CX.out.mono ?_
  rintro e w12 ⟨⟨v, rfl, ho⟩, hb⟩
  obtain ⟨X5, d5, rfl, hl, hg⟩ := own_shape ho (by decide)
  have CP5 := Lib.hid (own_cap ho)
  have HV12 := Lib.hid (HV11.out.trans (hb.mono (by omega)))
  have HB12 := Lib.hid (HB11.out.below hb HB11.out.lt)
  have HZ12 := Lib.hid (HZ11.out.below hb HZ11.out.lt)
  have NL5x12 : Hid (NewL (gx + 2) w12 X5 (nbCells m.dirty)) := Lib.hid ⟨hl, fun ad e => Nat.le_trans hs11 (hg ad e)⟩
  have NL0x12 := Lib.hid (NL0x11.out.below hb)
  have NL1x12 := Lib.hid (NL1x11.out.below hb)
  have NL2x12 := Lib.hid (NL2x11.out.below hb)
  have NL3x12 := Lib.hid (NL3x11.out.below hb)
  have NL4x12 := Lib.hid (NL4x11.out.below hb)
  have hs12 : gx + 2 ≤ w12.heap.size := Nat.le_trans hs11 hb.size
  have c1 : w12.cell? ⟨gx, 16, none⟩ = some (.slice a.D m.dirty.length a.cD) := HB12.out.cell 16
  have y1 : w12.frozen? ⟨gx, 16, none⟩ = false := HB12.out.free 16
  clear hl hg ho hb CX c0 HV11 HB11 HZ11 hs11 hsz11 NL0x11 NL1x11 NL2x11 NL3x11 NL4x11
  have HB13 : Hid (Whole (w12.setCell ⟨gx, 16, none⟩ (.slice X5 m.dirty.length d5)) gx 30 (mcL ({ a with F := X0, cF := d0, P := X1, cP := d1, Q := X2, cQ := d2, L := X3, cL := d3, N := X4, cN := d4, D := X5, cD := d5 } : MA) m).toArray) := Lib.hid (HB12.out.set 16 (.slice X5 m.dirty.length d5))
  have HZ13 := Lib.hid (HZ12.out.far (p := ⟨gx, 16, none⟩) (by show gx + 1 ≠ gx; omega) (.slice X5 m.dirty.length d5))
  have HV13 := Lib.hid (HV12.out.setCell (p := ⟨gx, 16, none⟩) (Nat.le_refl _) (.slice X5 m.dirty.length d5))
  have hsz13 : gx + 2 ≤ (w12.setCell ⟨gx, 16, none⟩ (.slice X5 m.dirty.length d5)).heap.size := by simpa [World.setCell] using hs12
  have NL0x13 := Lib.hid (NL0x12.out.set (q := gx) (K := 16) (v := .slice X5 m.dirty.length d5) (by omega))
  have NL1x13 := Lib.hid (NL1x12.out.set (q := gx) (K := 16) (v := .slice X5 m.dirty.length d5) (by omega))
  have NL2x13 := Lib.hid (NL2x12.out.set (q := gx) (K := 16) (v := .slice X5 m.dirty.length d5) (by omega))
  have NL3x13 := Lib.hid (NL3x12.out.set (q := gx) (K := 16) (v := .slice X5 m.dirty.length d5) (by omega))
  have NL4x13 := Lib.hid (NL4x12.out.set (q := gx) (K := 16) (v := .slice X5 m.dirty.length d5) (by omega))
  have NL5x13 := Lib.hid (NL5x12.out.set (q := gx) (K := 16) (v := .slice X5 m.dirty.length d5) (by omega))
  go_upto_region 7 with (fail)
  clear c1 y1 HV12 HB12 HZ12 hs12 NL0x12 NL1x12 NL2x12 NL3x12 NL4x12 NL5x12
  generalize (w12.setCell ⟨gx, 16, none⟩ (.slice X5 m.dirty.length d5)) = w13 at *
  have LD := Lib.hid HB13.out.reads
  have hone := mcL_one ({ a with F := X0, cF := d0, P := X1, cP := d1, Q := X2, cQ := d2, L := X3, cL := d3, N := X4, cN := d4, D := X5, cD := d5 } : MA) m
  have HOW : Hid (OwnM (gx + 2) w13 ({ a with F := X0, cF := d0, P := X1, cP := d1, Q := X2, cQ := d2, L := X3, cL := d3, N := X4, cN := d4, D := X5, cD := d5 } : MA) m) := Lib.hid ⟨NL0x13.out, NL1x13.out, NL2x13.out, NL3x13.out, NL4x13.out, NL5x13.out⟩
  have HCA : Hid (CapM ({ a with F := X0, cF := d0, P := X1, cP := d1, Q := X2, cQ := d2, L := X3, cL := d3, N := X4, cN := d4, D := X5, cD := d5 } : MA) m) := Lib.hid ⟨CP0.out, CP1.out, CP2.out, CP3.out, CP4.out, CP5.out⟩
  clear NL0x13 CP0 NL1x13 CP1 NL2x13 CP2 NL3x13 CP3 NL4x13 CP4 NL5x13 CP5
  generalize ({ a with F := X0, cF := d0, P := X1, cP := d1, Q := X2, cQ := d2, L := X3, cL := d3, N := X4, cN := d4, D := X5, cD := d5 } : MA) = a' at *
  have HLN : Hid ((mcL a' m).length = 17) := Lib.hid rfl
  obtain ⟨cs, HCS⟩ : ∃ z, Hid (mcL a' m = z) := ⟨_, Lib.hid rfl⟩
  rw [HCS.out] at LD hone HLN
  have MI : Hid ((Tryz.prog.info? 30).map (·.size) = some cs.length) := Lib.hid (by rw [HLN.out]; exact Tryz.sizeMc)
  go_wp2_with (first
    | (refine wpList_load_at rfl 30 (.tmp 1) rfl ⟨gx, 0, none⟩ rfl cs _ LD.out Tryz.underlying30 rfl MI.out ?_)
    | (refine wpList_store_all rfl 30 (.tmp 2) (.tmp 31) rfl rfl (gx + 1) rfl cs rfl MI.out zeroML 30 HZ13.out (by rw [HLN.out]; rfl) hone ?_; intro wz hw hk))
  refine bodyPost_ret (v := .agg cs.toArray) (results_cell_row rfl _ _ (gx + 1) 30 _ (0, 0) _ rfl hw.out Tryz.underlying30 rfl (by rw [List.size_toArray]; exact MI.out)) rfl ?_
  refine ⟨⟨a', by rw [HCS.out], ?_, HCA.out⟩, by rw [HGX.out]; exact HV13.out.grown hk.out (by omega) (fun q e => by injection e with e; omega)⟩
  have h := HOW.out.one hk.out (by omega)
  have hle : ∀ {X : Option Addr} {xs : List Value}, NewL (gx + 2) wz X xs → NewL w.heap.size wz X xs := fun h => ⟨h.1, fun ad e => by have := h.2 ad e; have := HGX.out; omega⟩
  exact ⟨hle h.1, hle h.2.1, hle h.2.2.1, hle h.2.2.2.1, hle h.2.2.2.2.1, hle h.2.2.2.2.2⟩
/-- the machine that is fed, or the error -/
def feedR (m : Mc) (s : List UInt8) (fin : Bool) : Except Int Mc := if m.fin = true then .error 14 else if 4096 < m.inp.length ∨ 4096 - (m.inp.length : Int) < s.length then .error 6 else .ok { m with inp := m.inp ++ s, fin := fin }
def FeedPost (w : World) (x : Except Int Mc) (e : Ending) (w' : World) : Prop :=
  (match x with
    | .error c => e = .returned (.tuple #[.agg zeroML.toArray, .int .i64 c])
    | .ok m => ∃ a : MA, e = .returned (.tuple #[.agg (mcL a m).toArray, .int .i64 0]) ∧ MAt w' w'.heap.size a m ∧ McOk m) ∧ Below w.heap.size w w'
set_option maxRecDepth 100000 in
set_option maxHeartbeats 4000000 in
theorem feed_any (w : World) (a : MA) (m : Mc) (s : List UInt8) (fin : Bool) (hm : McOk m) (hprl : m.procs.length ≤ 4294967296) (hpil : m.pipes.length ≤ 1099511627776) (hil : m.inp.length ≤ 1099511627776) (hA : MAt w w.heap.size a m) :
    Calls Tryz.prog 8 #[.agg (mcL a m).toArray, S s, .bool fin] w (FeedPost w (feedR m s fin)) := by
  have hs0 := (Whole.made w 30 (mcL a m).toArray).block (.cells #[.int .u64 0, .int .i64 0, .int .i64 0, .int .i64 0, .slice none 0 0, .slice none 0 0, .int .i64 0, S [], .slice none 0 0, .int .i64 0, S [], .bool false, .int .u64 0, .slice none 0 0, .slice none 0 0, .int .i64 0, .slice none 0 0] 30)
  have hs1 := Whole.made (w.alloc (.cells (mcL a m).toArray 30)) 30 #[.int .u64 0, .int .i64 0, .int .i64 0, .int .i64 0, .slice none 0 0, .slice none 0 0, .int .i64 0, S [], .slice none 0 0, .int .i64 0, S [], .bool false, .int .u64 0, .slice none 0 0, .slice none 0 0, .int .i64 0, .slice none 0 0]
  rw [show (w.alloc (.cells (mcL a m).toArray 30)).heap.size = w.heap.size + 1 by simp] at hs1
  have hb : Below w.heap.size w ((w.alloc (.cells (mcL a m).toArray 30)).alloc (.cells #[.int .u64 0, .int .i64 0, .int .i64 0, .int .i64 0, .slice none 0 0, .slice none 0 0, .int .i64 0, S [], .slice none 0 0, .int .i64 0, S [], .bool false, .int .u64 0, .slice none 0 0, .slice none 0 0, .int .i64 0, .slice none 0 0] 30)) := ((Below.refl _ _).alloc (by first | exact Nat.le_refl _ | simp | (simp; omega)) _).alloc (by first | exact Nat.le_refl _ | simp | (simp; omega)) _
  go_enter Tryz.func8, Tryz.ntmps8
  go_upto_region 1 with (fail)
  change Code.wp _ _ _ _ ((w.alloc (.cells (mcL a m).toArray 30)).alloc (.cells #[.int .u64 0, .int .i64 0, .int .i64 0, .int .i64 0, .slice none 0 0, .slice none 0 0, .int .i64 0, S [], .slice none 0 0, .int .i64 0, S [], .bool false, .int .u64 0, .slice none 0 0, .slice none 0 0, .int .i64 0, .slice none 0 0] 30))
  generalize ((w.alloc (.cells (mcL a m).toArray 30)).alloc (.cells #[.int .u64 0, .int .i64 0, .int .i64 0, .int .i64 0, .slice none 0 0, .slice none 0 0, .int .i64 0, S [], .slice none 0 0, .int .i64 0, S [], .bool false, .int .u64 0, .slice none 0 0, .slice none 0 0, .int .i64 0, .slice none 0 0] 30)) = w1 at *
  generalize hgx : w.heap.size = gx at *
  have HGX := Lib.hid hgx
  have HS0 := Lib.hid hs0
  have HS1 := Lib.hid hs1
  have HW := Lib.hid hb
  have hgl : gx + 1 < w1.heap.size := hs1.lt
  clear hgx hb hs0 hs1
  have HZ1 : Hid (Whole w1 (gx + 1) 30 zeroML.toArray) := Lib.hid HS1.out
  clear HS1
  have HA : Hid (MAt w1 gx a m) := Lib.hid (hA.below HW.out)
  have HM := Lib.hid hm
  clear hA
  have c11 : w1.cell? ⟨gx, 11, none⟩ = some (.bool m.fin) := HS0.out.cell 11
  have c10 : w1.cell? ⟨gx, 10, none⟩ = some (S m.inp) := HS0.out.cell 10
  have hgl0 : gx < w1.heap.size := by omega
  cases hfin : m.fin with
  | true =>
    rw [hfin] at c11
    have HQ : Hid (feedR m s fin = .error 14) := Lib.hid (by unfold feedR; rw [if_pos hfin])
    clear hfin c10
    go_wp2_with (refine wpList_store_all rfl 30 (.tmp 6) (.tmp 10) rfl rfl (gx + 1) rfl zeroML rfl Tryz.sizeMc zeroML 30 HZ1.out rfl (mcL_one _ _) ?_; intro wz hw hk)
    refine bodyPost_ret (v := .tuple #[.agg zeroML.toArray, .int .i64 14]) (results_cell_tmp rfl _ _ (gx + 1) 30 _ _ (0, 0) _ rfl rfl hw.out Tryz.underlying30 rfl Tryz.sizeMc) rfl ?_
    unfold FeedPost
    rw [HQ.out]
    exact ⟨rfl, by rw [HGX.out]; exact HW.out.grown hk.out (by omega) (fun q e => by injection e with e; omega)⟩
  | false =>
    rw [hfin] at c11
    have HFN := Lib.hid hfin
    clear hfin
    by_cases h1 : 4096 < m.inp.length
    · have HQ : Hid (feedR m s fin = .error 6) := Lib.hid (by unfold feedR; rw [if_neg (by rw [HFN.out]; decide), if_pos (.inl h1)])
      have d1 : decide ((4096 : Int) < (m.inp.length : Int)) = true := decide_eq_true (by omega)
      have d1' : decide (4096 < m.inp.length) = true := decide_eq_true h1
      go_wp2_with (refine wpList_store_all rfl 30 (.tmp 6) (.tmp 24) rfl rfl (gx + 1) rfl zeroML rfl Tryz.sizeMc zeroML 30 HZ1.out rfl (mcL_one _ _) ?_; intro wz hw hk)
      refine bodyPost_ret (v := .tuple #[.agg zeroML.toArray, .int .i64 6]) (results_cell_tmp rfl _ _ (gx + 1) 30 _ _ (0, 0) _ rfl rfl hw.out Tryz.underlying30 rfl Tryz.sizeMc) rfl ?_
      unfold FeedPost
      rw [HQ.out]
      exact ⟨rfl, by rw [HGX.out]; exact HW.out.grown hk.out (by omega) (fun q e => by injection e with e; omega)⟩
    · have d1 : decide ((4096 : Int) < (m.inp.length : Int)) = false := decide_eq_false (by omega)
      have d1' : decide (4096 < m.inp.length) = false := decide_eq_false h1
      have mw : IntKind.i64.wrap (4096 - (m.inp.length : Int)) = 4096 - (m.inp.length : Int) := by rw [IntKind.wrap_i64]; omega
      by_cases h2 : 4096 - (m.inp.length : Int) < s.length
      · have HQ : Hid (feedR m s fin = .error 6) := Lib.hid (by unfold feedR; rw [if_neg (by rw [HFN.out]; decide), if_pos (.inr h2)])
        have d2 : decide (4096 - (m.inp.length : Int) < (s.length : Int)) = true := decide_eq_true h2
        go_wp2_with (refine wpList_store_all rfl 30 (.tmp 6) (.tmp 24) rfl rfl (gx + 1) rfl zeroML rfl Tryz.sizeMc zeroML 30 HZ1.out rfl (mcL_one _ _) ?_; intro wz hw hk)
        refine bodyPost_ret (v := .tuple #[.agg zeroML.toArray, .int .i64 6]) (results_cell_tmp rfl _ _ (gx + 1) 30 _ _ (0, 0) _ rfl rfl hw.out Tryz.underlying30 rfl Tryz.sizeMc) rfl ?_
        unfold FeedPost
        rw [HQ.out]
        exact ⟨rfl, by rw [HGX.out]; exact HW.out.grown hk.out (by omega) (fun q e => by injection e with e; omega)⟩
      · have HQ : Hid (feedR m s fin = .ok ({ m with inp := m.inp ++ s, fin := fin } : Mc)) := Lib.hid (by unfold feedR; rw [if_neg (by rw [HFN.out]; decide), if_neg (by omega)])
        have d2 : decide (4096 - (m.inp.length : Int) < (s.length : Int)) = false := decide_eq_false h2
        go_upto_region 5 with (fail)
        clear d1 d1' d2 mw c10 c11
        have CC := Lib.hid (copied_any w1 a m hm hprl hpil (HA.out.wide (by omega)))
        have LD := Lib.hid HS0.out.reads
        have MI : Hid ((Tryz.prog.info? 30).map (·.size) = some (mcL a m).length) := Lib.hid (by rw [mcL_length]; exact Tryz.sizeMc)
        go_wp2_with (refine wpList_load_at rfl 30 (.tmp 3) rfl ⟨gx, 0, none⟩ rfl (mcL a m) _ LD.out Tryz.underlying30 rfl MI.out ?_)
        refine CC.out.mono ?_
        rintro e w2 ⟨⟨a', rfl, hown, hcap⟩, hb2⟩
        have HB2 := Lib.hid (HS0.out.below hb2 (by omega))
        have HZ2 := Lib.hid (HZ1.out.below hb2 (by omega))
        have HV2 := Lib.hid (HW.out.trans (hb2.mono (by omega)))
        have HO2 := Lib.hid hown
        have HC2 := Lib.hid hcap
        have hz2 := hb2.size
        clear hown hcap hb2 CC LD
        have MI2 : Hid ((Tryz.prog.info? 30).map (·.size) = some (mcL a' m).length) := Lib.hid (by rw [mcL_length]; exact Tryz.sizeMc)
        go_upto_region 6 with (refine wpList_store_all rfl 30 (.tmp 3) (.tmp 26) rfl rfl gx rfl (mcL a' m) rfl MI2.out (mcL a m) 30 HB2.out rfl (mcL_one _ _) ?_; intro w3 hw3 hk3)
        have HB3 := hw3
        have HZ3 := Lib.hid (HZ2.out.other hk3.out (by intro e; injection e with e; omega))
        have HV3 := Lib.hid (HV2.out.grown hk3.out (by omega) (fun q e => by injection e with e; omega))
        have HO3 := Lib.hid (HO2.out.one hk3.out hgl0)
        have hz3 : w2.heap.size ≤ w3.heap.size := hk3.out.size
        have c10 : w3.cell? ⟨gx, 10, none⟩ = some (S m.inp) := HB3.out.cell 10
        have y10 : w3.frozen? ⟨gx, 10, none⟩ = false := HB3.out.free 10
        have HB4 : Hid (Whole (w3.setCell ⟨gx, 10, none⟩ (S (m.inp ++ s))) gx 30 (mcL a' ({ m with inp := m.inp ++ s } : Mc)).toArray) := Lib.hid (HB3.out.set 10 (S (m.inp ++ s)))
        have c11 : (w3.setCell ⟨gx, 10, none⟩ (S (m.inp ++ s))).cell? ⟨gx, 11, none⟩ = some (.bool m.fin) := HB4.out.cell 11
        have y11 : (w3.setCell ⟨gx, 10, none⟩ (S (m.inp ++ s))).frozen? ⟨gx, 11, none⟩ = false := HB4.out.free 11
        have HB5 : Hid (Whole ((w3.setCell ⟨gx, 10, none⟩ (S (m.inp ++ s))).setCell ⟨gx, 11, none⟩ (.bool fin)) gx 30 (mcL a' ({ m with inp := m.inp ++ s, fin := fin } : Mc)).toArray) := Lib.hid (HB4.out.set 11 (.bool fin))
        have HZ5 := Lib.hid ((HZ3.out.far (p := ⟨gx, 10, none⟩) (by show gx + 1 ≠ gx; omega) (S (m.inp ++ s))).far (p := ⟨gx, 11, none⟩) (by show gx + 1 ≠ gx; omega) (.bool fin))
        have HV5 := Lib.hid ((HV3.out.setCell (p := ⟨gx, 10, none⟩) (Nat.le_refl _) (S (m.inp ++ s))).setCell (p := ⟨gx, 11, none⟩) (Nat.le_refl _) (.bool fin))
        have HO5 := Lib.hid ((HO3.out.one (grown_setK w3 gx 10 (S (m.inp ++ s))) hgl0).one (grown_setK _ gx 11 (.bool fin)) hgl0)
        have hz5 : w3.heap.size ≤ ((w3.setCell ⟨gx, 10, none⟩ (S (m.inp ++ s))).setCell ⟨gx, 11, none⟩ (.bool fin)).heap.size := by simp [World.setCell]
        go_upto_region 8 with (fail)
        clear c10 y10 c11 y11 HB3 HB4 HB2 HZ2 HZ3 HV2 HV3 HO2 HO3 hw3 hk3
        generalize ((w3.setCell ⟨gx, 10, none⟩ (S (m.inp ++ s))).setCell ⟨gx, 11, none⟩ (.bool fin)) = w5 at *
        have HM' : Hid (McOk ({ m with inp := m.inp ++ s, fin := fin } : Mc)) := Lib.hid ⟨hm.clock, hm.quantum, hm.cur, hm.left, hm.next, hm.newPipe, hm.told, hm.dleft, hm.procs, hm.pipes, hm.pend, hm.dirty, hm.sizes⟩
        have HO6 : Hid (OwnM w1.heap.size w5 a' ({ m with inp := m.inp ++ s, fin := fin } : Mc)) := Lib.hid HO5.out
        have HC6 : Hid (CapM a' ({ m with inp := m.inp ++ s, fin := fin } : Mc)) := Lib.hid HC2.out
        clear HO5 HC2
        generalize ({ m with inp := m.inp ++ s, fin := fin } : Mc) = m' at *
        have LD5 := Lib.hid HB5.out.reads
        have MI5 : Hid ((Tryz.prog.info? 30).map (·.size) = some (mcL a' m').length) := Lib.hid (by rw [mcL_length]; exact Tryz.sizeMc)
        go_wp2_with (first
          | (refine wpList_load_at rfl 30 (.tmp 3) rfl ⟨gx, 0, none⟩ rfl (mcL a' m') _ LD5.out Tryz.underlying30 rfl MI5.out ?_)
          | (refine wpList_store_all rfl 30 (.tmp 6) (.tmp 34) rfl rfl (gx + 1) rfl (mcL a' m') rfl MI5.out zeroML 30 HZ5.out rfl (mcL_one _ _) ?_; intro wz hw hk))
        refine bodyPost_ret (v := .tuple #[.agg (mcL a' m').toArray, .int .i64 0]) (results_cell_tmp rfl _ _ (gx + 1) 30 _ _ (0, 0) _ rfl rfl hw.out Tryz.underlying30 rfl (by rw [List.size_toArray]; exact MI5.out)) rfl ?_
        unfold FeedPost
        rw [HQ.out]
        exact ⟨⟨a', rfl, (HO6.out.one hk.out hgl).at HC6.out, HM'.out⟩, by rw [HGX.out]; exact HV5.out.grown hk.out (by omega) (fun q e => by injection e with e; omega)⟩
def fedM (x : Except Int Mc) : Mc := match x with
  | .error _ => zeroMc
  | .ok m => m
def fedC (x : Except Int Mc) : Int := match x with
  | .error c => c
  | .ok _ => 0
theorem zeroMc_ok : McOk zeroMc := by constructor <;> simp [zeroMc, inU64, inJ8]
theorem zeroMc_at (w : World) (B : Nat) : MAt w B zeroMA zeroMc := ⟨Lies.none _ _ _, Lies.none _ _ _, Lies.none _ _ _, Lies.none _ _ _, Lies.none _ _ _, Lies.none _ _ _, by simp [zeroMA, zeroMc]⟩
theorem FeedPost.one {w w' : World} {x : Except Int Mc} {e : Ending} (h : FeedPost w x e w') : (∃ a : MA, e = .returned (.tuple #[.agg (mcL a (fedM x)).toArray, .int .i64 (fedC x)]) ∧ MAt w' w'.heap.size a (fedM x) ∧ McOk (fedM x)) ∧ Below w.heap.size w w' := by
  obtain ⟨h, hb⟩ := h
  refine ⟨?_, hb⟩
  cases x with
  | error c => exact ⟨zeroMA, h, zeroMc_at _ _, zeroMc_ok⟩
  | ok m => exact h
end Go.Proofs.YtfdflkddmgninaaGreatDoor
