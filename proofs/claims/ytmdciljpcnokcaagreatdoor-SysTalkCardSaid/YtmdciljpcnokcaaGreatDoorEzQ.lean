/-
  hibernaclelaw29.SysTalk returns true of any data: from the runs by the kernel, and a walk where the data are none or too many.
-/
import Derived.Test.YtmdciljpcnokcaaGreatDoorEzN
namespace Go.Proofs.YtmdciljpcnokcaaGreatDoor.Ex
open Go.RowKit
abbrev sigOf (l : List UInt8) : Sig := ⟨fun d => l.getD (d - 256) 0⟩
theorem bytesOf_pack (l : List UInt8) : ∀ (n k : Nat), k + n = l.length → n + k < 65000 → @bytesOf (sigOf l) n (packN k n) = l.drop k
  | 0, k, h, _ => by
    have : l.length ≤ k := by omega
    rw [List.drop_eq_nil_of_le this]
    rfl
  | n + 1, k, h, h2 => by
    have e1 : packN k (n + 1) % 65536 = 256 + k := by
      show ((256 + k) + 65536 * packN (k + 1) n) % 65536 = _
      omega
    have e2 : packN k (n + 1) / 65536 = packN (k + 1) n := by
      show ((256 + k) + 65536 * packN (k + 1) n) / 65536 = _
      omega
    have ih := bytesOf_pack l n (k + 1) (by omega) (by omega)
    have hk : k < l.length := by omega
    show @dgt (sigOf l) (packN k (n + 1) % 65536) :: @bytesOf (sigOf l) n (packN k (n + 1) / 65536) = _
    rw [e1, e2, ih, List.drop_eq_getElem_cons hk]
    congr 1
    have : ¬ 256 + k < 256 := by omega
    have e3 : 256 + k - 256 = k := by omega
    simp only [dgt, this, if_false]
    show l.getD (256 + k - 256) 0 = l[k]
    rw [e3, List.getD_eq_getElem?_getD, List.getElem?_eq_getElem hk]
    rfl
theorem packN_lt : ∀ (n k : Nat), n + k < 65000 → packN k n < 65536 ^ n
  | 0, _, _ => by simp [packN]
  | n + 1, k, h => by
    have := packN_lt n (k + 1) (by omega)
    show (256 + k) + 65536 * packN (k + 1) n < 65536 ^ (n + 1)
    rw [Nat.pow_succ]
    omega
theorem talk_gen {n N : Nat} (hN : packN 0 n = N) (ht : talks n N = true) (hn : n < 1000) (l : List UInt8) (hl : l.length = n) (w : World) :
    Calls Go.Proofs.Tryz.prog 3 #[S l] w fun e w' => e = .returned (.bool true) ∧ Below w.heap.size w w' := by
  letI := sigOf l
  obtain ⟨x, H', h1, h2⟩ := (Dn_sound CP_ok irsL_sound irsL_pure _).go _ _ _ _ ht
  obtain ⟨b, rfl, h3⟩ := asB_true (show asB x (fun b => b) = true from h1)
  subst h3
  have hS : StrR ⟨l.toArray⟩ n N := by
    subst hN
    refine ⟨?_, packN_lt n 0 (by omega)⟩
    have := bytesOf_pack l n 0 (by omega) (by omega)
    rw [List.drop_zero] at this
    exact this.symm
  obtain ⟨_, h4⟩ := h2 inj0 w #[S l] ⟨⟨_, rfl, hS⟩, trivial⟩ (hr0 w)
  refine Calls.mono h4 fun e w' he => ?_
  obtain ⟨v, rfl, ι', hE, _, hv⟩ := he
  have hv : v = .bool true := hv
  subst hv
  exact ⟨rfl, hE.same.1, hE.same.2.1, hE.same.2.2, hE.size, fun k hk => hE.keep k hk fun b o x hb => (by cases hb)⟩
set_option maxHeartbeats 1000000 in
set_option maxRecDepth 100000 in
theorem talk_none (l : List UInt8) (hl : l.length < 1 ∨ 60 < l.length) (w : World) :
    Calls Go.Proofs.Tryz.prog 3 #[S l] w fun e w' => e = .returned (.bool true) ∧ Below w.heap.size w w' := by
  letI := sigOf []
  have CA := fun W => alive_any W
  go_enter Tryz.func3, Tryz.ntmps3
  go_wp2_with fail
  refine (CA _).mono ?_
  rintro e w1 ⟨rfl, hb⟩
  clear CA
  rcases hl with hl | hl
  · have d1 : decide ((l.length : Int) < 1) = true := decide_eq_true (by omega)
    have d1' : decide (l.length < 1) = true := decide_eq_true hl
    go_wp2_with fail
    go_ret
    exact ⟨rfl, hb⟩
  · have d1 : decide ((l.length : Int) < 1) = false := decide_eq_false (by omega)
    have d1' : decide (l.length < 1) = false := decide_eq_false (by omega)
    have d2 : decide (60 < (l.length : Int)) = true := decide_eq_true (by omega)
    have d2' : decide (60 < l.length) = true := decide_eq_true hl
    go_wp2_with fail
    go_ret
    exact ⟨rfl, hb⟩
end Go.Proofs.YtmdciljpcnokcaaGreatDoor.Ex
