/-
  SysKids's card: the looks at the whole program, and the witness.
-/
import Derived.Test.YtmdciljpcnokcaaGreatDoorCards
import Derived.Test.YtmdciljpcnokcaaGreatDoorTie
import Derived.Test.YtmdciljpcnokcaaGreatDoorBase
import Derived.WalkKit
import Derived.ProofKit
import Derived.OpenShut
import Derived.Carry
import Derived.Lib.SmallJoins
import Derived.Deep.DeepHandedRow
import Derived.Stop.LaidErr
import Derived.Lay
namespace Go.Proofs.YtmdciljpcnokcaaGreatDoor.sysKids
open Go.ChangeShapes Go.WideShapes Go.ChangeAt Go.RowKit

theorem own : ownKnob Tryz.prog.godebug = none := by kernel_rfl
theorem laidOut : laidOutB Tryz.prog = true := by kernel_rfl

/-- a world for the witness: the variables hold what their initialisers lay -/
noncomputable abbrev laidWorld (os : Os) : World := World.laidAll Tryz.prog os Rows.sysKidsRow.laid
theorem laid_met (os : Os) : laidMet Tryz.prog Rows.sysKidsRow.laid ((laidWorld os).forCall (fun _ _ => 0) ⟨#[], #[.int .u32 0, .int .u8 0, .slice none 0 0], []⟩).memory :=
  laidMet_laidAll _ (by kernel_rfl) (by kernel_rfl)
theorem reads (os : Os) {H : Type} (enc : TypeId × Value → H) : ∃ places, DataW.whole enc Tryz.prog ((laidWorld os).forCall (fun _ _ => 0) ⟨#[], #[.int .u32 0, .int .u8 0, .slice none 0 0], []⟩).memory Tryz.f4.params.toList Rows.sysKidsSpec.vars false #[.int .u32 0, .int .u8 0, .slice none 0 0].toList 8 = some ([.lit (.int .u32 0), .lit (.int .u8 0), .nil], [], places) :=
  ⟨[], by kernel_rfl⟩

theorem j1 : laidOutB Tryz.pinned.checked.prog = true := by kernel_rfl
theorem j2 : mapsRowed Tryz.pinned.checked.prog = true := by kernel_rfl
theorem j3 : namedTie Tryz.pinned.checked.prog Rows.sysKidsRow.named (OpenSpec.ofChange Rows.sysKidsSpec).bare.vars = true := by kernel_rfl
theorem j4 : (Rows.sysKidsRow.inPlace == Tryz.pinned.checked.prog.inPlace 4) = true := by kernel_rfl
theorem j5 : (Rows.sysKidsRow.unfollowed == Tryz.pinned.checked.prog.unfollowed 4) = true := by kernel_rfl
theorem j6 : (Rows.sysKidsRow.recurses == Tryz.pinned.checked.prog.recurses 4) = true := by kernel_rfl
theorem j7 : (Rows.sysKidsRow.named == Tryz.pinned.checked.prog.varsNamed 4) = true := by kernel_rfl
theorem joined : joinedFacts Tryz.pinned.checked.prog 4 Tryz.f4 (OpenSpec.ofChange Rows.sysKidsSpec).bare Rows.sysKidsRow = true := by
  unfold joinedFacts
  rw [j1, j2, j3, j4, j5, j6, j7]
  kernel_rfl
theorem goes_off {P : Program} (h : P.funcs.any Func.goes = false) (f : FuncId) : P.goes f = false := by
  unfold Program.goes
  rw [h, Bool.and_false, Bool.or_false, List.any_eq_false]
  intro g _
  cases hq : P.funcs[g]? with
  | none => simp
  | some fn =>
    rw [Array.any_eq_false] at h
    obtain ⟨hl, rfl⟩ := Array.getElem?_eq_some_iff.1 hq
    simpa using h g hl
/-- no go statement in the whole program: none that the call can come to -/
theorem goesBy_off {P : Program} (h : P.funcs.any Func.goes = false) (c : OpenClaim) (hs : c.start = .entering) : false = c.goesBy P := by
  unfold OpenClaim.goesBy Program.goesAt Program.goesFrom
  rw [hs]
  cases hf : P.funcNamed c.func with
  | none => rfl
  | some f => simp [goes_off h f]
theorem none_goes : Tryz.pinned.checked.prog.funcs.any Func.goes = false := by kernel_rfl
theorem j8 : false = Rows.sysKidsRow.goesBy Tryz.pinned.checked.prog := goesBy_off none_goes _ rfl
theorem plain (f : FuncId) (fn : Func) (hf : Tryz.pinned.checked.prog.funcNamed "hibernacle/hibernaclelaw29.SysKids" = some f) (hfn : Tryz.pinned.checked.prog.funcs[f]? = some fn) :
    true = Tryz.pinned.checked.prog.looks [] ∧ ∀ (j : Nat) t, fn.params[j]? = some t → Tryz.pinned.checked.prog.wantsStandIn t = false := by
  obtain rfl : f = 4 := Option.some.inj ((show Tryz.prog.funcNamed "hibernacle/hibernaclelaw29.SysKids" = some 4 by kernel_rfl).symm.trans hf) |>.symm
  obtain rfl : fn = Tryz.f4 := (Option.some.inj (Tryz.func4.symm.trans hfn)).symm
  refine ⟨by kernel_rfl, fun j t ht => ?_⟩
  rw [Tryz.params4] at ht
  match j, ht with
  | 0, ht => obtain rfl := Option.some.inj ht; exact (show Tryz.prog.wantsStandIn 34 = false by kernel_rfl)
  | 1, ht => obtain rfl := Option.some.inj ht; exact (show Tryz.prog.wantsStandIn 5 = false by kernel_rfl)
  | 2, ht => obtain rfl := Option.some.inj ht; exact (show Tryz.prog.wantsStandIn 57 = false by kernel_rfl)
  | _ + 3, ht => cases ht

end Go.Proofs.YtmdciljpcnokcaaGreatDoor.sysKids
