/-
  A run of closed code by the kernel: the contracts of strings.IndexByte and strings.Repeat.
-/
import Derived.Test.YtmdciljpcnokcaaGreatDoorEzR
import Derived.Test.YtmdciljpcnokcaaGreatDoorShelfB
import Derived.Below
import Derived.Shelf.Strings.Builder1
import Derived.Laws.Externs
namespace Go.Proofs.YtmdciljpcnokcaaGreatDoor.Ex
open Go.RowKit
section
variable {P : Program}
theorem HR.below [Sig] {ι : Inj} {H : Hp} {w w' : World} (h : HR ι H w) (hb : Below w.heap.size w w') : HR ι H w' ∧ Ext ι H w ι H w' :=
  ⟨⟨⟨fun b o hbo => (h.obj b o hbo).mono (Inj.le.refl ι) fun x hx => hb.block _ (h.lt b x hx), h.fresh, h.inj, fun b x hx => Nat.lt_of_lt_of_le (h.lt b x hx) hb.size⟩, h.amb.stay hb.size fun k hk => hb.block k (Nat.lt_of_lt_of_le hk h.amb.gb), h.far⟩,
   ⟨fun _ _ h => h, fun _ _ h => h, Nat.le_refl _, hb.size, fun k hk _ => hb.block k hk, fun b o x h1 h2 => .inr ⟨b, o, x, h1, h2, rfl⟩, fun _ _ x h1 _ hlt => ⟨hb.block x.block hlt, .inl h1⟩, hb.os, hb.tape, hb.output⟩⟩
def entersB (P : Program) (f : Nat) : Bool := match P.funcs[f]? with
  | some fn => fn.body.isSome && fn.name != "runtime.NumGoroutine"
  | none => false
theorem callFunc_enter {f : Nat} (h : entersB P f = true) (args : Array Value) (w : World) : (callFunc f args).run P w = .ok (.enter f args) w := by
  unfold entersB at h
  cases hf : P.funcs[f]? with
  | none => rw [hf] at h; cases h
  | some fn =>
    rw [hf] at h
    simp only [Bool.and_eq_true, bne_iff_ne, ne_eq] at h
    obtain ⟨h1, h2⟩ := h
    obtain ⟨c, hc⟩ := Option.isSome_iff_exists.1 h1
    simp [callFunc, hf, hc, h2]
end
theorem zeros_rep [Sig] : ∀ l c : Nat, Lib.repeatL (bytesOf l 0) c = bytesOf (l * c) 0 := by
  have h0 : ∀ l, bytesOf l 0 = List.replicate l (0 : UInt8) := by
    intro l
    induction l with
    | zero => rfl
    | succ l ih => simp only [bytesOf, Nat.zero_div, ih, List.replicate_succ]; rfl
  intro l c
  rw [h0, h0]
  induction c with
  | zero => rfl
  | succ c ih => rw [Nat.mul_succ, Lib.repeatL_add, ih, ← List.replicate_append_replicate]; congr 1; simp [Lib.repeatL]
theorem irRep_sound [Sig] : IrSound Go.Proofs.Tryz.prog 52 irRep := by
  intro vs H k h
  obtain ⟨x, y, rfl, h1⟩ := arg2_true (show arg2 vs _ = true from h)
  obtain ⟨l, s, rfl, h2⟩ := asStr_true h1
  obtain ⟨kc, c, rfl, h3⟩ := asI_true h2
  obtain ⟨c, rfl, h4⟩ := asNat_true h3
  obtain ⟨h5, h6⟩ := andK_true h4
  obtain ⟨h7, h8⟩ := andK_true h6
  obtain ⟨h9, h10⟩ := andK_true h8
  obtain ⟨h11, h12⟩ := andK_true h10
  obtain rfl := beq_true h5
  obtain rfl := beq_true h9
  have hc := ble_true h7
  have hlc : l * c ≤ 65536 := ble_true h11
  rw [fNat_eq] at h12
  refine ⟨_, H, h12, fun ι w args hv hH => ⟨callFunc_enter (by decide +kernel) args w, ?_⟩⟩
  obtain ⟨a, b, e1, ha, hb⟩ := RL2 hv
  obtain ⟨bs, rfl, hbs⟩ := ha
  have hb : b = .int .i64 (Int.ofNat c) := hb
  subst hb
  have e1 : args = #[.string bs, .int .i64 (c : Int)] := by
    apply Array.ext'
    exact e1
  rw [e1]
  have hsz := hbs.size
  refine Calls.mono (Tryz.strings_Repeat bs c w (by omega) (by rw [hsz]; omega)) fun e w' he => ?_
  obtain ⟨rfl, hB⟩ := he
  obtain ⟨g1, g2⟩ := hH.below hB
  refine ⟨_, rfl, ι, g2, g1, _, rfl, ?_, Nat.pow_pos (by decide)⟩
  show Lib.repeatL bs.data.toList c = _
  rw [hbs.1, zeros_rep]
  rfl
end Go.Proofs.YtmdciljpcnokcaaGreatDoor.Ex
/-
  A run of closed code by the kernel: the contract of strings.Builder's copyCheck.
-/
namespace Go.Proofs.YtmdciljpcnokcaaGreatDoor.Ex
open Go.RowKit Go.Shelf
theorem bldSize : (Go.Proofs.Tryz.prog.info? 151).map (·.size) = some 2 := by kernel_rfl
theorem bldPtr : Go.Proofs.Tryz.prog.underlying 149 = some (.pointer 151) := by kernel_rfl
set_option maxHeartbeats 1000000 in
set_option maxRecDepth 100000 in
theorem copyUsed [Sig] (b : Nat) (w : World) (h0 : w.cell? ⟨b, 0, none⟩ = some (.pointer (some ⟨b, 0, none⟩))) :
    Calls Go.Proofs.Tryz.prog 153 #[.pointer (some ⟨b, 0, none⟩)] w fun e w' => e = .returned (.tuple #[]) ∧ w' = w := by
  obtain ⟨j, hj, hjs⟩ := Option.map_eq_some_iff.1 bldSize
  go_enter Tryz.func153, Tryz.ntmps153
  go_wp2
  rw [Lib.run_neq_ptr_same w _ bldPtr hj]
  go_wp2
  go_end0
  exact ⟨rfl, rfl⟩
theorem lies_self {P : Program} {e : TypeId} {n : Nat} (hn : 1 ≤ n) (hs : P.cellsOf e ≠ 0) : liesAt P P.depth e n 0 e 1 = true := by
  have hd : P.depth = (2 * (P.types.size + Made.depth) + 1) + 1 := rfl
  rw [hd]
  simp only [liesAt, hd, rowAt, if_neg hs]
  simp [sameLayout, hn]
theorem bldCells : Go.Proofs.Tryz.prog.cellsOf 151 = 2 := by kernel_rfl
theorem bldUns : Go.Proofs.Tryz.prog.underlying 275 = some .unsafePointer := by kernel_rfl
set_option maxHeartbeats 1000000 in
set_option maxRecDepth 100000 in
theorem copyFresh [Sig] (b n : Nat) (hn : 2 ≤ n) (w : World) (h0 : w.cell? ⟨b, 0, none⟩ = some (.pointer none)) (hsh : w.shape? b = some (151, n)) (hfz : w.frozen? ⟨b, 0, none⟩ = false) :
    Calls Go.Proofs.Tryz.prog 153 #[.pointer (some ⟨b, 0, none⟩)] w fun e w' => e = .returned (.tuple #[]) ∧ w' = w.setCell ⟨b, 0, none⟩ (.pointer (some ⟨b, 0, none⟩)) := by
  obtain ⟨j, hj, hjs⟩ := Option.map_eq_some_iff.1 bldSize
  go_enter Tryz.func153, Tryz.ntmps153
  go_wp2
  rw [Lib.run_to_unsafe w ⟨b, 0, none⟩ bldPtr bldUns hj (by rw [hjs]; decide) hsh (show 0 < n by omega)]
  simp only [Result.andThen]
  rw [Oper.upon_value]
  go_wp2
  rw [run_callFunc_extern Tryz.func215 (by kernel_rfl) (by kernel_rfl) (by kernel_rfl) (e := Extern.AbiNoEscape.same) (by kernel_rfl)]
  rw [Lib.run_noEscape]
  simp only [Result.andThen]
  rw [Oper.upon_value]
  go_wp2
  rw [Lib.run_from_unsafe w ⟨b, 0, none⟩ bldUns bldPtr hj hsh (lies_self (by rw [bldCells]; omega) (by rw [bldCells]; decide))]
  simp only [Result.andThen]
  rw [Oper.upon_value]
  go_wp2
  go_end0
  exact ⟨rfl, rfl⟩
end Go.Proofs.YtmdciljpcnokcaaGreatDoor.Ex
/-
  A run of closed code by the kernel: irCopy is what copyCheck does.
-/
namespace Go.Proofs.YtmdciljpcnokcaaGreatDoor.Ex
open Go.RowKit
theorem irCopy_sound [Sig] : IrSound Go.Proofs.Tryz.prog 153 (irCopy 151) := by
  intro vs H k h
  obtain ⟨x, rfl, h1⟩ := arg1_true (show arg1 vs _ = true from h)
  obtain ⟨b, off, rfl, h2⟩ := asPtr_true h1
  obtain ⟨h3, h4⟩ := andK_true h2
  obtain rfl := beq_true h3
  obtain ⟨o, ho, h5⟩ := Tr.getK_true (show H.t.getK b _ = true from h4)
  obtain ⟨l, fz, et, rfl, h6⟩ := asCells_true h5
  obtain ⟨h7, h8⟩ := andK_true h6
  have het := eqON_true h7
  subst het
  obtain ⟨y, hy, h9⟩ := getL_true h8
  obtain ⟨z, hz, h10⟩ := getL_true h9
  have hlen : 2 ≤ l.length := (List.getElem?_eq_some_iff.1 hz).1
  have enter := fun args w => callFunc_enter (P := Go.Proofs.Tryz.prog) (f := 153) (by decide +kernel) args w
  cases y with
  | ptr b' off' =>
    obtain ⟨h11, h12⟩ := andK_true (show andK (Nat.beq b' b) (andK (Nat.beq off' 0) (k (.t []) ⟨H.nx, H.t⟩)) = true from h10)
    obtain ⟨h13, h14⟩ := andK_true h12
    obtain rfl := beq_true h11
    obtain rfl := beq_true h13
    refine ⟨_, _, h14, fun ι w args hv hH => ⟨enter args w, ?_⟩⟩
    obtain ⟨v, e1, q, hq, rfl⟩ := RL1 hv
    have e1 : args = #[.pointer (some ⟨q.block, q.base + 0, none⟩)] := Array.ext' e1
    obtain ⟨q', c, e, f, g1, g2, g3, g4, g5, g6⟩ := hH.obj _ _ ho
    rw [hq] at g1
    cases g1
    obtain ⟨rfl, hb0⟩ := g3.2 _ rfl
    obtain ⟨u, g7, g8⟩ := g5 0 _ hy
    obtain ⟨q', hq', rfl⟩ := g8.1
    rw [hq] at hq'
    cases hq'
    rw [hb0] at e1 g7
    rw [e1]
    refine Calls.mono (copyUsed q.block w ((cell_at g2 0).trans g7)) fun e' w' he => ?_
    obtain ⟨rfl, rfl⟩ := he
    exact ⟨_, rfl, ι, Ext.refl _ _ _, hH, #[], rfl, trivial⟩
  | oth ot =>
    cases ot with
    | nilp =>
      have h10 : (Bool.rec (setL (.ptr b 0) l 0 fun l' => H.t.setK (some (.cells l' false (some 151))) b fun t' => k (.t []) ⟨H.nx, t'⟩) false fz : Bool) = true := h10
      cases fz with
      | true => cases h10
      | false =>
        obtain ⟨_, h11⟩ := setL_true (show setL (.ptr b 0) l 0 _ = true from h10)
        obtain ⟨t', h12, h13, h14⟩ := Tr.setK_true h11
        refine ⟨_, _, h12, fun ι w args hv hH => ⟨enter args w, ?_⟩⟩
        obtain ⟨v, e1, q, hq, rfl⟩ := RL1 hv
        have e1 : args = #[.pointer (some ⟨q.block, q.base + 0, none⟩)] := Array.ext' e1
        obtain ⟨q', c, e, f, g1, g2, g3, g4, g5, g6⟩ := hH.obj _ _ ho
        rw [hq] at g1
        cases g1
        obtain ⟨rfl, hb0⟩ := g3.2 _ rfl
        obtain ⟨u, g7, g8⟩ := g5 0 _ hy
        have g8 : u = .pointer none := g8.1
        subst g8
        have hcs : 2 ≤ c.size := by have := g3.1; omega
        rw [hb0] at e1 g7
        rw [e1]
        have hput := hH.put ho hq h13 h14 (.cells (c.setIfInBounds 0 (.pointer (some ⟨q.block, 0, none⟩))) 151 f) (fun o' eo => by
          cases eo
          refine ⟨q, _, _, f, hq, World.putObj_heap_same (hH.lt b q hq), ⟨by simpa using g3.1, g3.2⟩, by simpa using g4, fun i y hi => ?_, fun _ i hi => g6 rfl i (by simpa using hi)⟩
          by_cases e0 : i = 0
          · subst e0
            have hl0 : 0 < l.length := by omega
            simp [hl0] at hi
            subst hi
            refine ⟨.pointer (some ⟨q.block, 0, none⟩), ?_, ⟨q, hq, by rw [hb0]⟩, rfl⟩
            rw [hb0]
            have : 0 < c.size := by omega
            simp [this]
          · rw [List.getElem?_set_ne (Ne.symm e0)] at hi
            obtain ⟨v, e2, e3⟩ := g5 i y hi
            refine ⟨v, ?_, e3⟩
            rw [Array.getElem?_setIfInBounds_ne (by omega)]
            exact e2)
        refine Calls.mono (copyFresh q.block c.size hcs w ((cell_at g2 0).trans g7) (by simp [World.shape?, g2]) (frozen_at g2 (g6 rfl 0 (by omega)))) fun e' w' he => ?_
        obtain ⟨rfl, rfl⟩ := he
        rw [setCell_at g2]
        exact ⟨_, rfl, ι, hput.2, hput.1, #[], rfl, trivial⟩
    | _ => cases h10
  | _ => cases h10
end Go.Proofs.YtmdciljpcnokcaaGreatDoor.Ex
/-
  A run of closed code by the kernel: strings.Builder's String.
-/
namespace Go.Proofs.YtmdciljpcnokcaaGreatDoor.Ex
open Go.RowKit Go.Shelf
set_option maxHeartbeats 2000000 in
set_option maxRecDepth 100000 in
theorem strNil (b : Nat) (w : World) (c0 : w.cell? ⟨b, 1, none⟩ = some (.slice none 0 0)) :
    Calls Go.Proofs.Tryz.prog 93 #[.pointer (some ⟨b, 0, none⟩)] w fun e w' => e = .returned (.string ⟨#[]⟩) ∧ w' = w.drew := by
  have hUS : ∀ (W : World) (q : Option Addr), (Builtin.unsafeString_ #[223, 3] 9 #[.pointer q, .int .i64 0]).run Go.Proofs.Tryz.prog W = .ok (.string .empty) W := fun W q => Lib.run_unsafeString_none W _ _ _ q
  have c1 : w.drew.cell? ⟨b, 1, none⟩ = some (.slice none 0 0) := c0
  have hSD : (Builtin.unsafeSliceData_ #[57] 223 #[.slice none 0 0]).run Go.Proofs.Tryz.prog w.drew = .ok (.pointer none) w.drew := rfl
  have mixed : Go.Proofs.Tryz.prog.follows .mixedOrders = true := by kernel_rfl
  go_enter Tryz.func93, Tryz.ntmps93
  go_wp2
  go_region_o
  all_goals (go_wp2; go_ret; exact ⟨rfl, rfl⟩)
theorem byteCellsOf : Go.Proofs.Tryz.prog.cellsOf 5 = 1 := by kernel_rfl
theorem bytePtr : Go.Proofs.Tryz.prog.underlying 223 = some (.pointer 5) := by kernel_rfl
set_option maxHeartbeats 2000000 in
set_option maxRecDepth 100000 in
theorem strRow [Sig] (b g cap cells : Nat) (l : List UInt8) (w : World) (c0 : w.cell? ⟨b, 1, none⟩ = some (.slice (some ⟨g, 0, none⟩) l.length cap)) (hcap : cap ≠ 0) (hsh : w.shape? g = some (5, cells)) (h0 : l ≠ []) (hn : l.length ≤ cells) (h63 : l.length ≤ 9223372036854775807)
    (hcell : ∀ j x, l[j]? = some x → w.cell? ((⟨g, 0, none⟩ : Addr).add j) = some (.int .u8 x.toNat)) :
    Calls Go.Proofs.Tryz.prog 93 #[.pointer (some ⟨b, 0, none⟩)] w fun e w' => e = .returned (.string ⟨l.toArray⟩) ∧ w' = w.drew.freeze ⟨g, 0, none⟩ l.length := by
  have c1 : w.drew.cell? ⟨b, 1, none⟩ = some (.slice (some ⟨g, 0, none⟩) l.length cap) := c0
  have hSD : (Builtin.unsafeSliceData_ #[57] 223 #[.slice (some ⟨g, 0, none⟩) l.length cap]).run Go.Proofs.Tryz.prog w.drew = .ok (.pointer (some ⟨g, 0, none⟩)) w.drew :=
    Lib.run_unsafeSliceData_row _ _ _ _ _ _ hcap
  have hUS : (Builtin.unsafeString_ #[223, 3] 9 #[.pointer (some ⟨g, 0, none⟩), .int .i64 l.length]).run Go.Proofs.Tryz.prog w.drew = .ok (.string ⟨l.toArray⟩) (w.drew.freeze ⟨g, 0, none⟩ l.length) :=
    Lib.run_unsafeString_row w.drew 223 3 9 5 bytePtr byteCellsOf g cells hsh l h0 hn h63 hcell
  clear hcell hsh
  have mixed : Go.Proofs.Tryz.prog.follows .mixedOrders = true := by kernel_rfl
  go_enter Tryz.func93, Tryz.ntmps93
  go_wp2
  go_region_o
  all_goals (go_wp2; go_ret; exact ⟨rfl, rfl⟩)
end Go.Proofs.YtmdciljpcnokcaaGreatDoor.Ex
/-
  A run of closed code by the kernel: irStr is what strings.Builder's String does.
-/
namespace Go.Proofs.YtmdciljpcnokcaaGreatDoor.Ex
open Go.RowKit
theorem freeze_at {w : World} {blk : Nat} {c : Array Value} {e : TypeId} {f : Nat × Nat} (h : w.heap[blk]? = some (.cells c e f)) {n : Nat} (hn : n ≠ 0) : ∃ f', w.freeze ⟨blk, 0, none⟩ n = w.putObj blk (.cells c e f') := by
  obtain ⟨lo, hi⟩ := f
  refine ⟨if lo == hi then (0, 0 + n) else (min lo 0, max hi (0 + n)), ?_⟩
  unfold World.freeze World.putObj
  rw [if_neg hn]
  congr 1
  apply Array.ext_getElem?
  intro j
  rw [Array.getElem?_modify]
  by_cases e1 : blk = j
  · subst e1
    have hlt := (Array.getElem?_eq_some_iff.1 h).1
    rw [if_pos rfl, h, Array.getElem?_setIfInBounds_self_of_lt hlt]
    rfl
  · rw [if_neg e1, Array.getElem?_setIfInBounds_ne e1]
theorem irStr_sound [Sig] : IrSound Go.Proofs.Tryz.prog 93 (irStr 151 5) := by
  intro vs H k h
  obtain ⟨x, rfl, h1⟩ := arg1_true (show arg1 vs _ = true from h)
  obtain ⟨b, off, rfl, h2⟩ := asPtr_true h1
  obtain ⟨h3, h4⟩ := andK_true h2
  obtain rfl := beq_true h3
  obtain ⟨o, ho, h5⟩ := Tr.getK_true h4
  obtain ⟨l, fz, et, rfl, h6⟩ := asCells_true h5
  obtain ⟨h7, h8⟩ := andK_true h6
  have het := eqON_true h7
  subst het
  obtain ⟨y, hy, h9⟩ := getL_true h8
  have enter := fun args w => callFunc_enter (P := Go.Proofs.Tryz.prog) (f := 93) (by decide +kernel) args w
  cases y with
  | oth ot =>
    cases ot with
    | nils =>
      have h9 : k (.s (.str 0 0)) H = true := h9
      refine ⟨_, _, h9, fun ι w args hv hH => ⟨enter args w, ?_⟩⟩
      obtain ⟨v, e1, q, hq, rfl⟩ := RL1 hv
      have e1 : args = #[.pointer (some ⟨q.block, q.base + 0, none⟩)] := Array.ext' e1
      obtain ⟨q', c, e, f, g1, g2, g3, g4, g5, g6⟩ := hH.obj _ _ ho
      rw [hq] at g1
      cases g1
      obtain ⟨rfl, hb0⟩ := g3.2 _ rfl
      obtain ⟨u, g7, g8⟩ := g5 1 _ hy
      have g8 : u = .slice none 0 0 := g8.1
      subst g8
      rw [hb0] at e1 g7
      rw [e1]
      refine Calls.mono (strNil q.block w ((cell_at g2 1).trans (by simpa using g7))) fun e' w' he => ?_
      obtain ⟨rfl, rfl⟩ := he
      exact ⟨_, rfl, ι, Ext.drew, hH.drew, _, rfl, rfl, by decide⟩
    | _ => cases h9
  | sl b2 off len esz cap =>
    obtain ⟨h10, h11⟩ := andK_true (show andK (Nat.beq off 0) (andK (Nat.blt 0 len) (andK (Nat.ble len 1000000) (rowK 1 len (.s (.sl b2 off len esz cap)) H _))) = true from h9)
    obtain rfl := beq_true h10
    obtain ⟨h12, h13⟩ := andK_true h11
    obtain ⟨h14, h15⟩ := andK_true h13
    have hl0 := blt_true h12
    have hl1 := ble_true h14
    obtain ⟨_, h16⟩ := andK_true (show andK (Nat.ble len len) (H.t.getK b2 fun o => asCells o fun l _ _ => dropL l 0 fun l' => takeL l' (Nat.mul len 1) _) = true from h15)
    obtain ⟨o2, ho2, h17⟩ := Tr.getK_true h16
    obtain ⟨l2, fz2, et2, rfl, h18⟩ := asCells_true h17
    obtain ⟨_, h19⟩ := dropL_true h18
    obtain ⟨h20, h21⟩ := takeL_true h19
    obtain ⟨m, s, h22, hm, hs, hstr⟩ := strOf_true h21
    obtain ⟨o3, ho3, h23⟩ := Tr.getK_true (show H.t.getK b2 _ = true from h22)
    rw [ho2] at ho3
    cases ho3
    have h23 : andK (eqON et2 (some 5)) (H.t.setK (some (.cells l2 true et2)) b2 fun t' => k (.s (.str m s)) ⟨H.nx, t'⟩) = true := h23
    obtain ⟨h24, h25⟩ := andK_true h23
    have het := eqON_true h24
    subst het
    obtain ⟨t', h26, h27, h28⟩ := Tr.setK_true h25
    have h20 : len * 1 ≤ (l2.drop 0).length := h20
    have hml : m = len := by rw [hm]; show ((l2.drop 0).take (len * 1)).length = len; rw [List.length_take]; omega
    refine ⟨_, _, h26, fun ι w args hv hH => ⟨enter args w, ?_⟩⟩
    obtain ⟨v, e1, q, hq, rfl⟩ := RL1 hv
    have e1 : args = #[.pointer (some ⟨q.block, q.base + 0, none⟩)] := Array.ext' e1
    obtain ⟨q', c, e, f, g1, g2, g3, g4, g5, g6⟩ := hH.obj _ _ ho
    rw [hq] at g1
    cases g1
    obtain ⟨rfl, hb0⟩ := g3.2 _ rfl
    obtain ⟨u, g7, g8⟩ := g5 1 _ hy
    obtain ⟨y2, cap', hy2, g9, hlc, _⟩ := g8.1
    subst g9
    obtain ⟨y2', c2, e2, f2, p1, p2, p3, p4, p5, p6⟩ := hH.obj _ _ ho2
    rw [hy2] at p1
    cases p1
    obtain ⟨rfl, hb2⟩ := p3.2 _ rfl
    have hc2 : len ≤ c2.size := by have := p3.1; simp at h20; omega
    have hRL : RL (CR ι) ((l2.drop 0).take (len * 1)) (c2.toList.take len) := by
      refine RL.of_get ?_ fun i a d ha hd => ?_
      · simp at h20 ⊢; omega
      · rw [List.getElem?_take] at ha hd
        split at ha
        · rw [if_pos (by omega)] at hd
          obtain ⟨v, q1, q2⟩ := p5 i a (by simpa using ha)
          rw [hb2] at q1
          have : v = d := by
            rw [Nat.zero_add] at q1
            rw [Array.getElem?_toList, q1] at hd
            exact Option.some.inj hd
          rw [← this]
          exact q2
        · cases ha
    have hbytes := hstr ι _ hRL
    have hlen : (bytesOf m s).length = len := by
      have := congrArg List.length hbytes
      simp at this
      omega
    rw [hb0] at e1 g7
    rw [hb2] at g7
    rw [e1]
    refine Calls.mono (strRow q.block y2.block cap' c2.size (bytesOf m s) w ((cell_at g2 1).trans (by rw [hlen]; simpa using g7)) (by omega) (by simp [World.shape?, p2]) (by intro e; rw [e] at hlen; simp at hlen; omega) (by omega) (by omega) (fun j x hx => ?_)) fun e' w' he => ?_
    · have : (c2.toList.take len)[j]? = some (.int .u8 x.toNat) := by rw [hbytes, List.getElem?_map, hx]; rfl
      rw [List.getElem?_take] at this
      split at this
      · rw [Addr.add_lit, Nat.zero_add, cell_at p2]
        simpa using this
      · cases this
    · obtain ⟨rfl, rfl⟩ := he
      obtain ⟨f', hf⟩ := freeze_at (w := w.drew) (show w.drew.heap[y2.block]? = some (.cells c2 5 f2) from p2) (n := (bytesOf m s).length) (by omega)
      rw [hf]
      obtain ⟨r1, r2⟩ := hH.drew.put ho2 hy2 h27 h28 (.cells c2 5 f') (fun o' eo => by
        cases eo
        exact ⟨y2, c2, _, f', hy2, World.putObj_heap_same (hH.lt b2 y2 hy2), p3, p4, p5, (fun e => by cases e)⟩) (by cases fz2 <;> rfl)
      refine ⟨_, rfl, ι, Ext.drew.trans r2, r1, _, rfl, ?_, hs⟩
      simp
  | _ => cases h9
end Go.Proofs.YtmdciljpcnokcaaGreatDoor.Ex
