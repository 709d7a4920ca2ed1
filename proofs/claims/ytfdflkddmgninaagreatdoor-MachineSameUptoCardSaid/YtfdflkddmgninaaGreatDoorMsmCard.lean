/-
  PROVED: called with any two machines and any number, hibernaclelaw30.MachineSame returns true, and they read as they did.
  CONDITIONS: the arguments are together of bulk at most 1048576 (the second form); three tables of the program hold what their initialisers lay (the card ties that to the program's text).
-/
import Derived.Test.YtfdflkddmgninaaGreatDoorCards
import Derived.Test.YtfdflkddmgninaaGreatDoorTie
import Derived.Test.YtfdflkddmgninaaGreatDoorArgsB
import Derived.Test.YtfdflkddmgninaaGreatDoorMsm
import Derived.Stop.LaidErr
import Derived.Lay
namespace Go.Proofs.YtfdflkddmgninaaGreatDoor.machineSame
open Go.ChangeShapes Go.WideShapes Go.ChangeAt Go.RowKit

theorem own : ownKnob Tryz.prog.godebug = none := by kernel_rfl
theorem laidOut : laidOutB Tryz.prog = true := by kernel_rfl

set_option maxRecDepth 100000 in
/-- what the walk gives, for every argument within the bound -/
theorem contract (H : Type) (enc : TypeId × Value → H) (W : World) (base : Nat) (args : Array Value) (ds gs : List (DataW H)) (before : List MemPlace)
    (hval : ∀ (j : Nat) t v, Tryz.f3.params[j]? = some t → args[j]? = some v → Value.okWide Tryz.prog W .any base t v)
    (hW : DataW.Whole enc Tryz.prog Tryz.f3.params.toList Rows.machineSameSpec.vars false W args.toList ds gs before)
    (hk : Rows.uptoSmall H (ds ++ gs) = true) :
    Calls Tryz.prog 3 args W fun e W' => ∃ v, e = .returned v ∧ Rows.machineSameSpec.post enc Tryz.prog Tryz.f3 false true false false W args v W' := by
  have hW' := hW
  obtain ⟨p, q, hA0, hV, rfl, hfz, hnd⟩ := hW
  have hA : DataW.TrodAll enc Tryz.prog W 0 (fun _ => true) true Tryz.f3.params.toList args.toList ds p := hA0
  rw [Tryz.params3] at hA hval
  obtain ⟨v0, v1, v2, d0, d1, d2, p0, p1, p2, rfl, rfl, rfl, h0, h1, h2⟩ := trodAll_three hA
  obtain ⟨rfl, rfl⟩ := trodVars_none hV
  have hbulk : Rows.uptoBulkAll [d0, d1, d2] ≤ 1048576 := by
    rw [List.append_nil] at hk
    exact of_decide_eq_true hk
  simp only [Rows.uptoBulkAll] at hbulk
  have hv0 := hval 0 30 v0 rfl rfl
  have hv1 := hval 1 30 v1 rfl rfl
  have hv2 := hval 2 5 v2 rfl rfl
  obtain ⟨a, m, rfl, hMA, hm'⟩ := open_mc hv0 h0
  have bm := bulk_mc h0
  have hm := hm'.bulk bm (by omega)
  obtain ⟨b, n, rfl, hNB, hn'⟩ := open_mc hv1 h1
  have bn := bulk_mc h1
  have hn := hn'.bulk bn (by omega)
  obtain ⟨k, rfl, _, _, hkw⟩ := Go.ChangeShapes.open_int Tryz.underlying5 hv2 h2
  have b1 := bn.pipes
  have b2 := bm.inp
  have walk := msame_any W a b m n k (u8_wf hkw) hm hn (by omega) (by omega) hMA hNB
  simp only [List.append_nil, List.append_assoc] at hW'
  have hlt : ∀ x ∈ p0 ++ (p1 ++ p2), x.block < W.heap.size := fun x hx => by simpa using hW'.lt x (by simpa using hx)
  refine walk.mono fun e W' ⟨he, hb⟩ => ?_
  subst he
  refine ⟨_, rfl, [d0, d1, d2], [], p0 ++ (p1 ++ p2), [], p0 ++ (p1 ++ p2), [], by simpa using hW', trodAll_cons_mk (shut_bool Tryz.underlying4 _) trodAll_mk0, ?_, rfl, hb.frame _, fun h => by cases h⟩
  exact trodAll_mk3 (Below.trod laidOut (by kernel_rfl) (of_decide_eq_true (by kernel_rfl)) h0 hb (fun x hx => hlt x (List.mem_append_left _ hx))) (Below.trod laidOut (by kernel_rfl) (of_decide_eq_true (by kernel_rfl)) h1 hb (fun x hx => hlt x (List.mem_append_right _ (List.mem_append_left _ hx)))) (Below.trod laidOut (by kernel_rfl) (of_decide_eq_true (by kernel_rfl)) h2 hb (fun x hx => hlt x (List.mem_append_right _ (List.mem_append_right _ hx)))) 

/-- a world for the witness: the variables hold what their initialisers lay -/
noncomputable abbrev laidWorld (os : Os) : World := World.laidAll Tryz.prog os Rows.machineSameUptoRow.laid
abbrev noMach : Value := .agg #[.int .u64 0, .int .i64 0, .int .i64 0, .int .i64 0, .slice none 0 0, .slice none 0 0, .int .i64 0, .string ⟨#[]⟩, .slice none 0 0, .int .i64 0, .string ⟨#[]⟩, .bool false, .int .u64 0, .slice none 0 0, .slice none 0 0, .int .i64 0, .slice none 0 0]
theorem laid_met (os : Os) : laidMet Tryz.prog Rows.machineSameUptoRow.laid ((laidWorld os).forCall (fun _ _ => 0) ⟨#[], #[noMach, noMach, .int .u8 0], []⟩).memory :=
  laidMet_laidAll _ (by kernel_rfl) (by kernel_rfl)
theorem reads (os : Os) {H : Type} (enc : TypeId × Value → H) : ∃ places, DataW.whole enc Tryz.prog ((laidWorld os).forCall (fun _ _ => 0) ⟨#[], #[noMach, noMach, .int .u8 0], []⟩).memory Tryz.f3.params.toList Rows.machineSameSpec.vars false #[noMach, noMach, .int .u8 0].toList 8 = some ([.agg [.lit (.int .u64 0), .lit (.int .i64 0), .lit (.int .i64 0), .lit (.int .i64 0), .nil, .nil, .lit (.int .i64 0), .lit (.string []), .nil, .lit (.int .i64 0), .lit (.string []), .lit (.bool false), .lit (.int .u64 0), .agg [.nil, .nil, .lit (.int .i64 0)], .nil], .agg [.lit (.int .u64 0), .lit (.int .i64 0), .lit (.int .i64 0), .lit (.int .i64 0), .nil, .nil, .lit (.int .i64 0), .lit (.string []), .nil, .lit (.int .i64 0), .lit (.string []), .lit (.bool false), .lit (.int .u64 0), .agg [.nil, .nil, .lit (.int .i64 0)], .nil], .lit (.int .u8 0)], [], places) :=
  ⟨[], by kernel_rfl⟩

set_option maxRecDepth 100000 in
theorem liftedUpto (os : Os) (started : os.Started) (H : Type) (enc : TypeId × Value → H) (F : Stop.Interp) :
    ReturnsInHanded {} Tryz.checked os 3 .any ((Rows.OpenSpec.upto Rows.machineSameSpec).preRow enc Tryz.prog Tryz.f3 Rows.machineSameUptoRow.domain false Rows.machineSameUptoRow.laid) (((Rows.OpenSpec.upto Rows.machineSameSpec).at F).post enc Tryz.prog Tryz.f3 false true false false) := by
  obtain ⟨places, hx⟩ := reads os enc
  refine returnsInHanded_of_row (C := Tryz.checked) (s := Rows.OpenSpec.upto Rows.machineSameSpec) own started (by kernel_rfl) Tryz.func3
    (witness_row_at (enc := enc) (C := Tryz.checked) false (laidWorld os) #[noMach, noMach, .int .u8 0] rfl (by kernel_rfl) (by kernel_rfl) (by kernel_rfl)
      (OpenSpec.preRow_of_cond 8 hx (by kernel_rfl) (fun k hk => by cases hk; kernel_rfl) (by kernel_rfl) (laid_met os))) ?_
  intro W base args ds gs before hval hW _ hc2 _ _ _ _
  exact contract H enc W base args ds gs before hval hW (hc2 _ rfl)

theorem j1 : laidOutB Tryz.pinned.checked.prog = true := by kernel_rfl
theorem j2 : mapsRowed Tryz.pinned.checked.prog = true := by kernel_rfl
theorem j3 : namedTie Tryz.pinned.checked.prog Rows.machineSameUptoRow.named (Rows.OpenSpec.upto Rows.machineSameSpec).bare.vars = true := by kernel_rfl
theorem j4 : (Rows.machineSameUptoRow.inPlace == Tryz.pinned.checked.prog.inPlace 3) = true := by kernel_rfl
theorem j5 : (Rows.machineSameUptoRow.unfollowed == Tryz.pinned.checked.prog.unfollowed 3) = true := by kernel_rfl
theorem j6 : (Rows.machineSameUptoRow.recurses == Tryz.pinned.checked.prog.recurses 3) = true := by kernel_rfl
theorem j7 : (Rows.machineSameUptoRow.named == Tryz.pinned.checked.prog.varsNamed 3) = true := by kernel_rfl
theorem joined : joinedFacts Tryz.pinned.checked.prog 3 Tryz.f3 (Rows.OpenSpec.upto Rows.machineSameSpec).bare Rows.machineSameUptoRow = true := by
  unfold joinedFacts
  rw [j1, j2, j3, j4, j5, j6, j7]
  kernel_rfl
theorem saidUpto : Rows.MachineSameUptoSaid :=
  OpenClaim.holds_of_cond 3 Tryz.f3 rfl rfl rfl rfl rfl rfl rfl ⟨rfl, rfl, rfl, rfl, rfl⟩ rfl rfl rfl rfl rfl (by kernel_rfl) Tryz.func3 joined
    (of_decide_eq_true (by kernel_rfl)) (by unfold Func.isWrapper; first | (rw [if_pos (by decide +kernel)]; kernel_rfl) | (rw [if_neg (by decide +kernel)]; exact ⟨rfl, rfl⟩))
    (fun os started H enc _ F => by rw [OpenClaim.pre_eq_preRow]; exact liftedUpto os started H enc F)

theorem plain (f : FuncId) (fn : Func) (hf : Tryz.pinned.checked.prog.funcNamed "hibernacle/hibernaclelaw30.MachineSame" = some f) (hfn : Tryz.pinned.checked.prog.funcs[f]? = some fn) :
    true = Tryz.pinned.checked.prog.looks [] ∧ ∀ (j : Nat) t, fn.params[j]? = some t → Tryz.pinned.checked.prog.wantsStandIn t = false := by
  obtain rfl : f = 3 := Option.some.inj ((show Tryz.prog.funcNamed "hibernacle/hibernaclelaw30.MachineSame" = some 3 by kernel_rfl).symm.trans hf) |>.symm
  obtain rfl : fn = Tryz.f3 := (Option.some.inj (Tryz.func3.symm.trans hfn)).symm
  refine ⟨by kernel_rfl, fun j t ht => ?_⟩
  rw [Tryz.params3] at ht
  match j, ht with
  | 0, ht => obtain rfl := Option.some.inj ht; exact (show Tryz.prog.wantsStandIn 30 = false by kernel_rfl)
  | 1, ht => obtain rfl := Option.some.inj ht; exact (show Tryz.prog.wantsStandIn 30 = false by kernel_rfl)
  | 2, ht => obtain rfl := Option.some.inj ht; exact (show Tryz.prog.wantsStandIn 5 = false by kernel_rfl)
  | _ + 3, ht => cases ht

theorem cardUpto : Rows.MachineSameUptoCardSaid :=
  Claim7.holds_tied_plain_at .later [] _ _ _ _ saidUpto (fun _ h => by cases h) (by kernel_rfl) (fun _ h => by cases h) machineSameUpto_row_tie rfl ⟨rfl, rfl⟩ (by kernel_rfl) rfl plain (by kernel_rfl)
#print axioms cardUpto
end Go.Proofs.YtfdflkddmgninaaGreatDoor.machineSame
