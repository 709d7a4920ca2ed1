/-
  The law's row, but for its tie: called with any word, any number and any list of signals whatever, hibernaclelaw29.SysKids returns true, and they read as they did.
  CONDITIONS: none on the argument; the two tables of the package hash hold what their initialisers lay (the card ties that to the program's text; the walk does not use it).
-/
import Derived.Test.YtmdciljpcnokcaaGreatDoorCards
import Derived.Test.YtmdciljpcnokcaaGreatDoorTie
import Derived.Test.YtmdciljpcnokcaaGreatDoorKdW
import Derived.Deep.DeepHandedRow
import Derived.Lib.LaidTab
import Derived.Test.YtmdciljpcnokcaaGreatDoorKdM
import Derived.Deep.Slices
import Derived.Carry
import Derived.Lay
namespace Go.Proofs.YtmdciljpcnokcaaGreatDoor.sysKids
open Go.ChangeShapes Go.WideShapes Go.ChangeAt Go.RowKit

set_option maxRecDepth 100000 in
/-- a row of bytes, opened -/
theorem open_u8s {H : Type} {enc : TypeId × Value → H} {W : World} {r : Reach} {b0 : Nat} {v : Value} {d : DataW H} {p : List MemPlace} (hv : Value.okWide Tryz.prog W r b0 57 v) (h : DataW.Trod enc Tryz.prog W 0 (fun _ => true) true 57 v d p) :
    v = .slice none 0 0 ∨ ∃ (a : Addr) (c : Nat) (gs : List UInt8), v = .slice (some a) gs.length c ∧ (∀ j x, gs[j]? = some x → W.cell? (a.add j) = some (.int .u8 (x.toNat : Int))) ∧ gs.length ≤ c ∧ (∀ j, j < c → (W.cell? (a.add j)).isSome = true) := by
  have hag : v.cells.toList = [v] := by
    simp only [Value.okWide, Tryz.underlying57, Cell.okWide] at hv
    cases v <;> simp_all [Cell.ok, Value.cells]
  obtain ⟨fuel, hf⟩ := h
  rw [hag] at hf
  rcases Go.Deep.open_slice1 Tryz.underlying57 (by kernel_rfl) hf with ⟨hcs, _⟩ | ⟨a, len, cap, m, n, V, D, Pl, hcs, _, hlc, _, hm, _, hx⟩
  · exact .inl (List.cons.inj hcs).1
  · have hm : m = cap := hm
    subst hm
    have key : ∀ i, i < len → ∃ x : UInt8, W.cell? (a.add i) = some (.int .u8 (x.toNat : Int)) := fun i hi => by
      obtain ⟨h1, h2⟩ := hx i (by omega)
      obtain ⟨z, hz, _, hw⟩ := DataW.trod_int Tryz.underlying5 h2
      have hz : V i = .int .u8 z := (List.cons.inj hz).1
      simp only [Lit.wf, Bool.and_eq_true, decide_eq_true_eq] at hw
      have q1 : (0 : Int) ≤ z := hw.1
      have q2 : z ≤ 255 := hw.2
      refine ⟨UInt8.ofNat z.toNat, ?_⟩
      rw [h1, hz, UInt8.toNat_ofNat']
      congr 2
      omega
    obtain ⟨gs, hgl, hg⟩ : ∃ gs : List UInt8, gs.length = len ∧ ∀ j x, gs[j]? = some x → W.cell? (a.add j) = some (.int .u8 (x.toNat : Int)) := by
      have : ∀ k, k ≤ len → ∃ gs : List UInt8, gs.length = k ∧ ∀ j x, gs[j]? = some x → W.cell? (a.add j) = some (.int .u8 (x.toNat : Int)) := by
        intro k
        induction k with
        | zero => exact fun _ => ⟨[], rfl, fun j x hj => by simp at hj⟩
        | succ k ih =>
          intro hk
          obtain ⟨gs, h1, h2⟩ := ih (by omega)
          obtain ⟨x, h3⟩ := key k (by omega)
          refine ⟨gs ++ [x], by simp [h1], fun j y hj => ?_⟩
          rcases Nat.lt_or_ge j gs.length with hlt | hge
          · rw [List.getElem?_append_left hlt] at hj
            exact h2 j y hj
          · rw [List.getElem?_append_right hge] at hj
            have : j - gs.length = 0 := by
              have := (List.getElem?_eq_some_iff.1 hj).1
              simp at this
              omega
            rw [this] at hj
            simp at hj
            subst hj
            rw [show j = k by omega]
            exact h3
      exact this len (Nat.le_refl _)
    refine .inr ⟨a, m, gs, ?_, hg, by omega, fun j hj => by rw [(hx j hj).1]; rfl⟩
    rw [hgl]
    exact (List.cons.inj hcs).1

set_option maxRecDepth 100000 in
/-- what the walk gives, for every argument -/
theorem contract (H : Type) (enc : TypeId × Value → H) (W : World) (base : Nat) (args : Array Value) (ds gs : List (DataW H)) (before : List MemPlace)
    (hval : ∀ (j : Nat) t v, Tryz.f4.params[j]? = some t → args[j]? = some v → Value.okWide Tryz.prog W .any base t v)
    (hW : DataW.Whole enc Tryz.prog Tryz.f4.params.toList Rows.sysKidsSpec.vars false W args.toList ds gs before) :
    Calls Tryz.prog 4 args W fun e W' => ∃ v, e = .returned v ∧ Rows.sysKidsSpec.post enc Tryz.prog Tryz.f4 false true false false W args v W' := by
  have hW' := hW
  obtain ⟨p, q, hA0, hV, rfl, hfz, hnd⟩ := hW
  have hA : DataW.TrodAll enc Tryz.prog W 0 (fun _ => true) true Tryz.f4.params.toList args.toList ds p := hA0
  rw [Tryz.params4] at hA hval
  obtain ⟨v0, v1, v2, d0, d1, d2, p0, p1, p2, rfl, rfl, rfl, h0, h1, h2⟩ := trodAll_three hA
  obtain ⟨rfl, rfl⟩ := trodVars_none hV
  have hv0 := hval 0 34 v0 rfl rfl
  have hv1 := hval 1 5 v1 rfl rfl
  have hv2 := hval 2 57 v2 rfl rfl
  obtain ⟨n0, rfl, _, _, hw0⟩ := open_int Tryz.underlying34 hv0 h0
  obtain ⟨n1, rfl, _, _, hw1⟩ := open_int Tryz.underlying5 hv1 h1
  have b0 : 0 ≤ n0 ∧ n0 < 4294967296 := by
    simp only [Lit.wf, Bool.and_eq_true, decide_eq_true_eq] at hw0
    have q1 : (0 : Int) ≤ n0 := hw0.1
    have q2 : n0 ≤ 4294967295 := hw0.2
    omega
  have b1 : 0 ≤ n1 ∧ n1 < 256 := by
    simp only [Lit.wf, Bool.and_eq_true, decide_eq_true_eq] at hw1
    have q1 : (0 : Int) ≤ n1 := hw1.1
    have q2 : n1 ≤ 255 := hw1.2
    omega
  obtain ⟨W0, rfl⟩ := Int.eq_ofNat_of_zero_le b0.1
  obtain ⟨M0, rfl⟩ := Int.eq_ofNat_of_zero_le b1.1
  have walk := Kd.kidsLaw_any W W0 M0 (by omega) (by omega) v2 (open_u8s hv2 h2)
  have hlt : ∀ x ∈ p0 ++ (p1 ++ p2), x.block < W.heap.size := fun x hx => by simpa using hW'.lt x (by simpa using hx)
  refine walk.mono fun e W' ⟨he, hb⟩ => ?_
  subst he
  refine ⟨_, rfl, [d0, d1, d2], [], p0 ++ (p1 ++ p2), [], p0 ++ (p1 ++ p2), [], by simpa using hW', trodAll_cons_mk (shut_bool Tryz.underlying4 _) trodAll_mk0, ?_, rfl, hb.frame _, fun h => by cases h⟩
  exact trodAll_mk3 (Below.trod laidOut (by kernel_rfl) (of_decide_eq_true (by kernel_rfl)) h0 hb (fun x hx => hlt x (by simp [hx]))) (Below.trod laidOut (by kernel_rfl) (of_decide_eq_true (by kernel_rfl)) h1 hb (fun x hx => hlt x (by simp [hx])))
    (Below.trod laidOut (by kernel_rfl) (of_decide_eq_true (by kernel_rfl)) h2 hb (fun x hx => hlt x (by simp [hx])))

set_option maxRecDepth 100000 in
theorem lifted (os : Os) (started : os.Started) (H : Type) (enc : TypeId × Value → H) (F : Stop.Interp) :
    ReturnsInHanded {} Tryz.checked os 4 .any ((OpenSpec.ofChange Rows.sysKidsSpec).preRow enc Tryz.prog Tryz.f4 Rows.sysKidsRow.domain false Rows.sysKidsRow.laid) (((OpenSpec.ofChange Rows.sysKidsSpec).at F).post enc Tryz.prog Tryz.f4 false true false false) := by
  obtain ⟨places, hx⟩ := reads os enc
  refine returnsInHanded_of_row (C := Tryz.checked) (s := OpenSpec.ofChange Rows.sysKidsSpec) own started (by kernel_rfl) Tryz.func4
    (witness_row_at (enc := enc) (C := Tryz.checked) false (laidWorld os) #[.int .u32 0, .int .u8 0, .slice none 0 0] rfl (by kernel_rfl) (by kernel_rfl) (by kernel_rfl)
      (OpenSpec.preRow_of_cond 8 hx (by kernel_rfl) (fun k hk => by cases hk) (by kernel_rfl) (laid_met os))) ?_
  intro W base args ds gs before hval hW _ _ _ _ _ _
  exact contract H enc W base args ds gs before hval hW

theorem said : Rows.SysKidsSaid :=
  OpenClaim.holds_of_cond 4 Tryz.f4 rfl rfl rfl rfl rfl rfl rfl ⟨rfl, rfl, rfl, rfl, rfl⟩ rfl rfl rfl rfl rfl (by kernel_rfl) Tryz.func4 joined
    (of_decide_eq_true (by kernel_rfl)) (by unfold Func.isWrapper; first | (rw [if_pos (by decide +kernel)]; kernel_rfl) | (rw [if_neg (by decide +kernel)]; exact ⟨rfl, rfl⟩))
    (fun os started H enc _ F => by rw [OpenClaim.pre_eq_preRow]; exact lifted os started H enc F)

end Go.Proofs.YtmdciljpcnokcaaGreatDoor.sysKids
