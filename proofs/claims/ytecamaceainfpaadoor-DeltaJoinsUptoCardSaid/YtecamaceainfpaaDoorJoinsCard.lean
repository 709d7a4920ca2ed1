/-
  PROVED: called with any three images, hibernaclelaw35.DeltaJoins returns true, and the images read as they did.
  CONDITIONS: the arguments are together of bulk at most 1048576 (the second form); the two tables of the package hash hold what their initialisers lay (the card ties that to the program's text).
-/
import Derived.Test.YtecamaceainfpaaDoorCards
import Derived.Test.YtecamaceainfpaaDoorTie
import Derived.WalkKit
import Derived.ProofKit
import Derived.OpenShut
import Derived.Deep.DeepHandedRow
import Derived.Lib.LaidTab
import Derived.Test.YtecamaceainfpaaDoorArgs
import Derived.Test.YtecamaceainfpaaDoorJoins
namespace Go.Proofs.YtecamaceainfpaaDoor.deltaJoins
open Go.ChangeShapes Go.WideShapes Go.ChangeAt Go.RowKit

theorem own : ownKnob Tryd.prog.godebug = none := by kernel_rfl
theorem laidOut : laidOutB Tryd.prog = true := by kernel_rfl

set_option maxRecDepth 100000 in
/-- what the walk gives, for every argument within the bound and every world that holds the tables -/
theorem contract (H : Type) (enc : TypeId × Value → H) (W : World) (base : Nat) (args : Array Value) (ds gs : List (DataW H)) (before : List MemPlace)
    (hval : ∀ (j : Nat) t v, Tryd.f7.params[j]? = some t → args[j]? = some v → Value.okWide Tryd.prog W .any base t v)
    (hW : DataW.Whole enc Tryd.prog Tryd.f7.params.toList Rows.deltaJoinsSpec.vars false W args.toList ds gs before) (hL : laidMetH Tryd.prog Rows.deltaJoinsUptoRow.laid W)
    (hk : Rows.uptoSmall H (ds ++ gs) = true) :
    Calls Tryd.prog 7 args W fun e W' => ∃ v, e = .returned v ∧ Rows.deltaJoinsSpec.post enc Tryd.prog Tryd.f7 false true false false W args v W' := by
  have hW' := hW
  obtain ⟨p, q, hA0, hV, rfl, hfz, hnd⟩ := hW
  have hA : DataW.TrodAll enc Tryd.prog W 0 (fun _ => true) true Tryd.f7.params.toList args.toList ds p := hA0
  rw [Tryd.params7] at hA hval
  obtain ⟨v0, v1, v2, d0, d1, d2, p0, p1, p2, rfl, rfl, rfl, h0, h1, h2⟩ := trodAll_three hA
  obtain ⟨rfl, rfl⟩ := trodVars_none hV
  have hbulk : Rows.uptoBulkAll [d0, d1, d2] ≤ 1048576 := by
    rw [List.append_nil] at hk
    exact of_decide_eq_true hk
  simp only [Rows.uptoBulkAll] at hbulk
  have hv0 := hval 0 24 v0 rfl rfl
  have hv1 := hval 1 24 v1 rfl rfl
  have hv2 := hval 2 24 v2 rfl rfl
  obtain ⟨A, A', c, c', fa, ba, ra, e0, hA1, hA2, hs⟩ := open_image hv0 h0
  obtain ⟨B, B', d, d', fb, bb, rb, e1, hB1, hB2, hs'⟩ := open_image hv1 h1
  obtain ⟨C, C', k, k', fc, bc, rc, e2, hC1, hC2, hs''⟩ := open_image hv2 h2
  have walk := joins_any W A A' B B' C C' c c' d d' k k' fa ba fb bb fc bc ra rb rc (tabs_of_laid hL) hA1 hA2 hB1 hB2 hC1 hC2 (by omega) (by omega) (by omega)
  rw [← e0, ← e1, ← e2] at walk
  simp only [List.append_nil, List.append_assoc] at hW'
  have hlt : ∀ x ∈ p0 ++ (p1 ++ p2), x.block < W.heap.size := fun x hx => by simpa using hW'.lt x hx
  refine walk.mono fun e W' ⟨he, hb⟩ => ?_
  subst he
  refine ⟨_, rfl, [d0, d1, d2], [], p0 ++ (p1 ++ p2), [], p0 ++ (p1 ++ p2), [], by simpa using hW', trodAll_cons_mk (shut_bool Tryd.underlying4 _) trodAll_mk0, ?_, rfl, hb.frame _, fun h => by cases h⟩
  exact trodAll_mk3 (Below.trod laidOut (by kernel_rfl) (of_decide_eq_true (by kernel_rfl)) h0 hb (fun x hx => hlt x (List.mem_append_left _ hx))) (Below.trod laidOut (by kernel_rfl) (of_decide_eq_true (by kernel_rfl)) h1 hb (fun x hx => hlt x (List.mem_append_right _ (List.mem_append_left _ hx)))) (Below.trod laidOut (by kernel_rfl) (of_decide_eq_true (by kernel_rfl)) h2 hb (fun x hx => hlt x (List.mem_append_right _ (List.mem_append_right _ hx))))

/-- a world for the witness: the settled one, the tables holding what their initialisers lay -/
noncomputable def laidWorld (os : Os) : World :=
  let W := World.holding Tryd.prog os ⟨#[], #[], []⟩
  { W with heap := (W.heap.modify 0 fun
      | .cells _ t frozen => .cells eightV t frozen
      | o => o).modify 1 fun
      | .cells _ t frozen => .cells rowsV t frozen
      | o => o }
abbrev none24 : Value := .agg #[.slice none 0 0, .slice none 0 0, .string ⟨#[]⟩]
theorem laid_met (os : Os) : laidMet Tryd.prog Rows.deltaJoinsUptoRow.laid ((laidWorld os).forCall (fun _ _ => 0) ⟨#[], #[none24, none24, none24], []⟩).memory :=
  laidMet_of_run' 8 (by kernel_rfl) (by kernel_rfl)
theorem reads (os : Os) {H : Type} (enc : TypeId × Value → H) : ∃ places, DataW.whole enc Tryd.prog ((laidWorld os).forCall (fun _ _ => 0) ⟨#[], #[none24, none24, none24], []⟩).memory Tryd.f7.params.toList Rows.deltaJoinsSpec.vars false #[none24, none24, none24].toList 8 = some ([.agg [.nil, .nil, .lit (.string [])], .agg [.nil, .nil, .lit (.string [])], .agg [.nil, .nil, .lit (.string [])]], [], places) :=
  ⟨[], by kernel_rfl⟩

set_option maxRecDepth 100000 in
theorem liftedUpto (os : Os) (started : os.Started) (H : Type) (enc : TypeId × Value → H) (F : Stop.Interp) :
    ReturnsInHanded {} Tryd.checked os 7 .any ((Rows.OpenSpec.upto Rows.deltaJoinsSpec).preRow enc Tryd.prog Tryd.f7 Rows.deltaJoinsUptoRow.domain false Rows.deltaJoinsUptoRow.laid) (((Rows.OpenSpec.upto Rows.deltaJoinsSpec).at F).post enc Tryd.prog Tryd.f7 false true false false) := by
  obtain ⟨places, hx⟩ := reads os enc
  refine returnsInHanded_of_row (C := Tryd.checked) (s := Rows.OpenSpec.upto Rows.deltaJoinsSpec) own started (by kernel_rfl) Tryd.func7
    (witness_row_at (enc := enc) (C := Tryd.checked) false (laidWorld os) #[none24, none24, none24] rfl (by kernel_rfl) (by kernel_rfl) (by kernel_rfl)
      (OpenSpec.preRow_of_cond 8 hx (by kernel_rfl) (fun k hk => by cases hk; kernel_rfl) (by kernel_rfl) (laid_met os))) ?_
  intro W base args ds gs before hval hW _ hc2 _ hL _ _
  exact contract H enc W base args ds gs before hval hW hL (hc2 _ rfl)

theorem saidUpto : Rows.DeltaJoinsUptoSaid :=
  OpenClaim.holds_of_cond 7 Tryd.f7 rfl rfl rfl rfl rfl rfl rfl ⟨rfl, rfl, rfl, rfl, rfl⟩ rfl rfl rfl rfl rfl (by kernel_rfl) Tryd.func7 (by kernel_rfl)
    (of_decide_eq_true (by kernel_rfl)) (by unfold Func.isWrapper; first | (rw [if_pos (by decide +kernel)]; kernel_rfl) | (rw [if_neg (by decide +kernel)]; exact ⟨rfl, rfl⟩))
    (fun os started H enc _ F => by rw [OpenClaim.pre_eq_preRow]; exact liftedUpto os started H enc F)

theorem plain (f : FuncId) (fn : Func) (hf : Tryd.pinned.checked.prog.funcNamed "hibernacle/hibernaclelaw35.DeltaJoins" = some f) (hfn : Tryd.pinned.checked.prog.funcs[f]? = some fn) :
    true = Tryd.pinned.checked.prog.looks [] ∧ ∀ (j : Nat) t, fn.params[j]? = some t → Tryd.pinned.checked.prog.wantsStandIn t = false := by
  obtain rfl : f = 7 := Option.some.inj ((show Tryd.prog.funcNamed "hibernacle/hibernaclelaw35.DeltaJoins" = some 7 by kernel_rfl).symm.trans hf) |>.symm
  obtain rfl : fn = Tryd.f7 := (Option.some.inj (Tryd.func7.symm.trans hfn)).symm
  refine ⟨by kernel_rfl, fun j t ht => ?_⟩
  rw [Tryd.params7] at ht
  obtain rfl : t = 24 := by simpa using Array.mem_of_getElem? ht
  exact (show Tryd.prog.wantsStandIn 24 = false by kernel_rfl)

theorem cardUpto : Rows.DeltaJoinsUptoCardSaid :=
  Claim7.holds_tied_plain_at .later [] _ _ _ _ saidUpto (fun _ h => by cases h) (by kernel_rfl) (fun _ h => by cases h) deltaJoinsUpto_row_tie rfl ⟨rfl, rfl⟩ (by kernel_rfl) rfl plain (by kernel_rfl)
#print axioms cardUpto
end Go.Proofs.YtecamaceainfpaaDoor.deltaJoins
