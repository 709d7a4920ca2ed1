/-
  PROVED: called with any machine, any bytes and any flag, hibernaclelaw32.ImageFed returns true, and they read as they did.
  CONDITIONS: none of ours (the first form); three tables and two errors of the library hold what their initialisers lay (the card ties that to the program's text).
-/
import Derived.Test.YtmmfcjkabpffeaaGreatDoorCards
import Derived.Test.YtmmfcjkabpffeaaGreatDoorTie
import Derived.Test.YtmmfcjkabpffeaaGreatDoorArgsM
import Derived.Test.YtmmfcjkabpffeaaGreatDoorFed
import Derived.Stop.LaidErr
import Derived.Lay
namespace Go.Proofs.YtmmfcjkabpffeaaGreatDoor.imageFed
open Go.ChangeShapes Go.WideShapes Go.ChangeAt Go.RowKit

theorem own : ownKnob Tryz.prog.godebug = none := by kernel_rfl
theorem laidOut : laidOutB Tryz.prog = true := by kernel_rfl

theorem star : "*" ++ "errors.errorString" = "*errors.errorString" := by decide
theorem errName (u : TypeId) (h : Tryz.prog.typeName? 3 u = some "*errors.errorString") : u = 231 :=
  typeName_ptr_named (nm := "errors.errorString") (by rw [star]; kernel_rfl) (by kernel_rfl) (by decide) u (by rw [star]; exact h)
/-- the variables of the library out of the row's list -/
theorem itabs_of_laid {W : World} {rest : List (String × DataW Unit)} (h : laidMet Tryz.prog (("internal/strconv.uint64pow10", Rows.laid_internal_strconv_uint64pow10) :: ("strconv.ErrRange", Rows.laid_strconv_ErrRange) :: ("strconv.ErrSyntax", Rows.laid_strconv_ErrSyntax) :: rest) W) : ITabs W := by
  refine ⟨?_, ?_, ?_⟩
  · exact Lib.tabIs_of_head (g := 1) (by kernel_rfl) (by kernel_rfl) Tryz.underlying220 Tryz.underlying22 (by kernel_rfl) (by kernel_rfl) h
  · obtain ⟨a, s, hv, _⟩ := laid_sentinel (g := 2) (tp := 231) h.tail.tail (by kernel_rfl) (by kernel_rfl) Tryz.underlying109 errName Tryz.underlying231 Tryz.underlying233 rfl rfl Tryz.underlying9 (by kernel_rfl) (by kernel_rfl)
    exact ⟨_, _, hv⟩
  · obtain ⟨a, s, hv, _⟩ := laid_sentinel (g := 3) (tp := 231) h.tail (by kernel_rfl) (by kernel_rfl) Tryz.underlying109 errName Tryz.underlying231 Tryz.underlying233 rfl rfl Tryz.underlying9 (by kernel_rfl) (by kernel_rfl)
    exact ⟨_, _, hv⟩
set_option maxRecDepth 100000 in
/-- what the walk gives, for every argument -/
theorem contract (H : Type) (enc : TypeId × Value → H) (W : World) (base : Nat) (args : Array Value) (ds gs : List (DataW H)) (before : List MemPlace)
    (hval : ∀ (j : Nat) t v, Tryz.f6.params[j]? = some t → args[j]? = some v → Value.okWide Tryz.prog W .any base t v)
    (hW : DataW.Whole enc Tryz.prog Tryz.f6.params.toList Rows.imageFedSpec.vars false W args.toList ds gs before) (hL : laidMetH Tryz.prog Rows.imageFedRow.laid W) :
    Calls Tryz.prog 6 args W fun e W' => ∃ v, e = .returned v ∧ Rows.imageFedSpec.post enc Tryz.prog Tryz.f6 false true false false W args v W' := by
  have hW' := hW
  obtain ⟨p, q, hA0, hV, rfl, hfz, hnd⟩ := hW
  have hA : DataW.TrodAll enc Tryz.prog W 0 (fun _ => true) true Tryz.f6.params.toList args.toList ds p := hA0
  rw [Tryz.params6] at hA hval
  obtain ⟨v0, v1, v2, d0, d1, d2, p0, p1, p2, rfl, rfl, rfl, h0, h1, h2⟩ := trodAll_three hA
  obtain ⟨rfl, rfl⟩ := trodVars_none hV
  have hv0 := hval 0 30 v0 rfl rfl
  have hv1 := hval 1 9 v1 rfl rfl
  have hv2 := hval 2 4 v2 rfl rfl
  obtain ⟨a, m, rfl, hMA, hm⟩ := open_mc hv0 h0
  obtain ⟨s, rfl, _, _, _⟩ := Go.ChangeMaps.open_string Tryz.underlying9 hv1 h1
  obtain ⟨z, rfl, _, _⟩ := Go.RowKit.open_bool Tryz.underlying4 hv2 h2
  have walk := fed_any W a m s.data.toList z hm hMA (itabs_of_laid (laidMet.tail (laidMet.tail hL)))
  rw [← S_of] at walk
  simp only [List.append_nil, List.append_assoc] at hW'
  have hlt : ∀ x ∈ p0 ++ (p1 ++ p2), x.block < W.heap.size := fun x hx => by simpa using hW'.lt x hx
  refine walk.mono fun e W' ⟨he, hb⟩ => ?_
  subst he
  refine ⟨_, rfl, [d0, d1, d2], [], p0 ++ (p1 ++ p2), [], p0 ++ (p1 ++ p2), [], by simpa using hW', trodAll_cons_mk (shut_bool Tryz.underlying4 _) trodAll_mk0, ?_, rfl, hb.frame _, fun h => by cases h⟩
  exact trodAll_mk3 (Below.trod laidOut (by kernel_rfl) (of_decide_eq_true (by kernel_rfl)) h0 hb (fun x hx => hlt x (List.mem_append_left _ hx))) (Below.trod laidOut (by kernel_rfl) (of_decide_eq_true (by kernel_rfl)) h1 hb (fun x hx => hlt x (List.mem_append_right _ (List.mem_append_left _ hx)))) (Below.trod laidOut (by kernel_rfl) (of_decide_eq_true (by kernel_rfl)) h2 hb (fun x hx => hlt x (List.mem_append_right _ (List.mem_append_right _ hx))))

/-- a world for the witness: the variables hold what their initialisers lay -/
noncomputable abbrev laidWorld (os : Os) : World := World.laidAll Tryz.prog os Rows.imageFedRow.laid
abbrev noMach : Value := .agg #[.int .u64 0, .int .i64 0, .int .i64 0, .int .i64 0, .slice none 0 0, .slice none 0 0, .int .i64 0, .string ⟨#[]⟩, .slice none 0 0, .int .i64 0, .string ⟨#[]⟩, .bool false, .int .u64 0, .slice none 0 0, .slice none 0 0, .int .i64 0, .slice none 0 0]
theorem laid_met (os : Os) : laidMet Tryz.prog Rows.imageFedRow.laid ((laidWorld os).forCall (fun _ _ => 0) ⟨#[], #[noMach, .string ⟨#[]⟩, .bool false], []⟩).memory :=
  laidMet_laidAll _ (by kernel_rfl) (by kernel_rfl)
theorem reads (os : Os) {H : Type} (enc : TypeId × Value → H) : ∃ places, DataW.whole enc Tryz.prog ((laidWorld os).forCall (fun _ _ => 0) ⟨#[], #[noMach, .string ⟨#[]⟩, .bool false], []⟩).memory Tryz.f6.params.toList Rows.imageFedSpec.vars false #[noMach, .string ⟨#[]⟩, .bool false].toList 8 = some ([.agg [.lit (.int .u64 0), .lit (.int .i64 0), .lit (.int .i64 0), .lit (.int .i64 0), .nil, .nil, .lit (.int .i64 0), .lit (.string []), .nil, .lit (.int .i64 0), .lit (.string []), .lit (.bool false), .lit (.int .u64 0), .agg [.nil, .nil, .lit (.int .i64 0)], .nil], .lit (.string []), .lit (.bool false)], [], places) :=
  ⟨[], by kernel_rfl⟩

set_option maxRecDepth 100000 in
theorem lifted (os : Os) (started : os.Started) (H : Type) (enc : TypeId × Value → H) (F : Stop.Interp) :
    ReturnsInHanded {} Tryz.checked os 6 .any ((OpenSpec.ofChange Rows.imageFedSpec).preRow enc Tryz.prog Tryz.f6 Rows.imageFedRow.domain false Rows.imageFedRow.laid) (((OpenSpec.ofChange Rows.imageFedSpec).at F).post enc Tryz.prog Tryz.f6 false true false false) := by
  obtain ⟨places, hx⟩ := reads os enc
  refine returnsInHanded_of_row (C := Tryz.checked) (s := OpenSpec.ofChange Rows.imageFedSpec) own started (by kernel_rfl) Tryz.func6
    (witness_row_at (enc := enc) (C := Tryz.checked) false (laidWorld os) #[noMach, .string ⟨#[]⟩, .bool false] rfl (by kernel_rfl) (by kernel_rfl) (by kernel_rfl)
      (OpenSpec.preRow_of_cond 8 hx (by kernel_rfl) (fun k hk => by cases hk) (by kernel_rfl) (laid_met os))) ?_
  intro W base args ds gs before hval hW _ _ _ hL _ _
  exact contract H enc W base args ds gs before hval hW hL

theorem said : Rows.ImageFedSaid :=
  OpenClaim.holds_of_cond 6 Tryz.f6 rfl rfl rfl rfl rfl rfl rfl ⟨rfl, rfl, rfl, rfl, rfl⟩ rfl rfl rfl rfl rfl (by kernel_rfl) Tryz.func6 (by kernel_rfl)
    (of_decide_eq_true (by kernel_rfl)) (by unfold Func.isWrapper; first | (rw [if_pos (by decide +kernel)]; kernel_rfl) | (rw [if_neg (by decide +kernel)]; exact ⟨rfl, rfl⟩))
    (fun os started H enc _ F => by rw [OpenClaim.pre_eq_preRow]; exact lifted os started H enc F)

theorem plain (f : FuncId) (fn : Func) (hf : Tryz.pinned.checked.prog.funcNamed "hibernacle/hibernaclelaw32.ImageFed" = some f) (hfn : Tryz.pinned.checked.prog.funcs[f]? = some fn) :
    true = Tryz.pinned.checked.prog.looks [] ∧ ∀ (j : Nat) t, fn.params[j]? = some t → Tryz.pinned.checked.prog.wantsStandIn t = false := by
  obtain rfl : f = 6 := Option.some.inj ((show Tryz.prog.funcNamed "hibernacle/hibernaclelaw32.ImageFed" = some 6 by kernel_rfl).symm.trans hf) |>.symm
  obtain rfl : fn = Tryz.f6 := (Option.some.inj (Tryz.func6.symm.trans hfn)).symm
  refine ⟨by kernel_rfl, fun j t ht => ?_⟩
  rw [Tryz.params6] at ht
  match j, ht with
  | 0, ht => obtain rfl := Option.some.inj ht; exact (show Tryz.prog.wantsStandIn 30 = false by kernel_rfl)
  | 1, ht => obtain rfl := Option.some.inj ht; exact (show Tryz.prog.wantsStandIn 9 = false by kernel_rfl)
  | 2, ht => obtain rfl := Option.some.inj ht; exact (show Tryz.prog.wantsStandIn 4 = false by kernel_rfl)
  | _ + 3, ht => cases ht

theorem card : Rows.ImageFedCardSaid :=
  Claim7.holds_tied_plain_at .later [] _ _ _ _ said (fun _ h => by cases h) (by kernel_rfl) (fun _ h => by cases h) imageFed_row_tie rfl ⟨rfl, rfl⟩ (by kernel_rfl) rfl plain (by kernel_rfl)
#print axioms card
end Go.Proofs.YtmmfcjkabpffeaaGreatDoor.imageFed
