/-
  Walk: the kernel's method try. (Printed by gen_syt.py.)
-/
import Derived.Test.YtmdciljpcnokcaaGreatDoorMcA
import Derived.Defers
import Derived.Recover
import Derived.Laws.Pointers
namespace Go.Proofs.YtmdciljpcnokcaaGreatDoor
open Go.RowKit

set_option maxRecDepth 100000 in
set_option maxHeartbeats 2000000 in
theorem try_idle (w : World) (p : Value) :
    CallsD Tryz.prog 47 #[p] .returning w fun e u' w' => e = .returned (.tuple #[]) ∧ u' = .returning ∧ w' = w := by
  refine callsD_of_wpS Tryz.func47 rfl fun c₀ cs hu => ?_
  apply wpS_seq
  apply wpS_region
  simp [wpOpsS, go_sem, recoverD, hu, Tryz.ntmps47, Exit.thenS]
  refine wpS_of_wp ?_
  have e : #[p] ++ ((Array.replicate 33 undef).setIfInBounds 3 Value.nilIface).setIfInBounds 0 Value.nilIface = #[p, .nilIface, undef, undef, .nilIface, undef, undef, undef, undef, undef, undef, undef, undef, undef, undef, undef, undef, undef, undef, undef, undef, undef, undef, undef, undef, undef, undef, undef, undef, undef, undef, undef, undef, undef] := by kernel_rfl
  rw [e]
  go_wp2_with fail
  exact ⟨rfl, .returning, by cases c₀; simp_all, .tuple #[], by simp [results, Tryz.results47, go_sem], rfl, rfl, rfl⟩
set_option maxRecDepth 100000 in
set_option maxHeartbeats 2000000 in
theorem try_door {R : Ending → World → Prop} {W : World} {tmps : Array Value} {p : Value} (hR : R (.returned (.tuple #[])) W) :
    bodyPostD Tryz.prog Tryz.f24 R Exit.normal { tmps := tmps, defers := [{ target := Target.fn (Fn.func 47) #[p], args := #[] }] } W := by
  show Leaves _ _ _ _ _ _ _
  refine leaves_cons (f := 47) (args := #[p]) (by simp) (by simp [go_sem]) ?_
  refine (try_idle W p).mono ?_
  rintro e u' w'' ⟨rfl, rfl, rfl⟩
  dsimp only
  have hst : settle .returning = .returning := rfl
  rw [hst]
  exact ⟨_, by simp [results, Tryz.results24, go_sem], hR⟩
set_option maxRecDepth 100000 in
set_option maxHeartbeats 1000000 in
theorem try_gen (w : World) (q : Option Addr) (n : Value) (Q : World → Prop) (hc : ∀ W, Below w.heap.size w W → Calls Tryz.prog 49 #[.pointer q, n] W fun e w' => e = .returned (.tuple #[]) ∧ Q w') :
    Calls Tryz.prog 24 #[.pointer q, n] w fun e w' => e = .returned (.tuple #[]) ∧ Q w' := by
  have hmf : ∀ (fn : Fn) (first cap : Array Value) (w : World), (Instr.makeFunc fn first cap).run Tryz.prog w = .ok (.func fn first cap) w := fun _ _ _ _ => rfl
  have HC := Lib.hid (hc _ ((Below.refl w.heap.size w).alloc (Nat.le_refl _) (.cells #[.pointer q] 81)))
  have c0 : (w.alloc (.cells #[.pointer q] 81)).cell? ⟨w.heap.size, 0, none⟩ = some (.pointer q) := (Whole.made w 81 #[.pointer q]).cell 0
  clear hc
  go_enter_defers Tryz.func24, Tryz.ntmps24
  go_wp2_with fail
  refine HC.out.mono ?_
  rintro e w1 ⟨rfl, hq⟩
  have HQ := Lib.hid hq
  clear hq HC c0 hmf
  go_wp2_with fail
  refine try_door ⟨rfl, HQ.out⟩
end Go.Proofs.YtmdciljpcnokcaaGreatDoor
