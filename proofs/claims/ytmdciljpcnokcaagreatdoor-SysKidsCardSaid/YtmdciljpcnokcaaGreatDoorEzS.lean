/-
  A run of closed code by the kernel: the kernel's fail, and the ways to it.
-/
import Derived.Test.YtmdciljpcnokcaaGreatDoorEzP
import Derived.Test.YtmdciljpcnokcaaGreatDoorMcA
namespace Go.Proofs.YtmdciljpcnokcaaGreatDoor.Ex
open Go.RowKit
set_option maxHeartbeats 2000000 in
set_option maxRecDepth 100000 in
theorem fail_walk (B : Nat) (c0 c1 c2 c3 c4 c5 c6 c7 c8 c9 c10 c11 c12 c13 c14 c15 c16 : Value) (z : Int) (w : World)
    (hc : ∀ i v, [c0, c1, c2, c3, c4, c5, c6, c7, c8, c9, c10, c11, c12, c13, c14, c15, c16][i]? = some v → w.cell? ((⟨B, 17, none⟩ : Addr).add i) = some v) :
    Calls Go.Proofs.Tryz.prog 87 #[.pointer (some ⟨B, 0, none⟩), .int .i64 z] w fun e w' =>
      e = .panicked [{ v := .iface 110 (.agg #[c0, c1, c2, c3, c4, c5, c6, c7, c8, c9, c10, c11, c12, c13, c14, c15, c16, .int .i64 z]), recovered := false }] ∧ w' = w := by
  go_enter Tryz.func87, Tryz.ntmps87
  go_wp2_with (refine wpList_load_at rfl 31 (.tmp 6) rfl ⟨B, 17, none⟩ rfl [c0, c1, c2, c3, c4, c5, c6, c7, c8, c9, c10, c11, c12, c13, c14, c15, c16] _ hc Tryz.underlying31 rfl (by kernel_rfl) ?_)
  exact ⟨rfl, rfl, rfl⟩
/-- the machine that stands in a kernel as it was, and why -/
noncomputable def failK (vs : List Va) (H : Hp) (kp : List Sc → Hp → Bool) : Bool := arg2 vs fun x y => asPtr x fun b off => asI y fun kc z => andK (Nat.beq off 0) <| andK (Nat.beq kc 3) <| H.t.getK b fun o => asCells o fun l _ et => andK (eqON et (some 83)) <|
  dropL l 17 fun r => takeL r 17 fun cs => appL cs [.int kc z] fun pv => kp pv H
theorem fail_sound [Sig] {vs : List Va} {H : Hp} {kp : List Sc → Hp → Bool} (h : failK vs H kp = true) : ∃ pv H', kp pv H' = true ∧ CallPans Go.Proofs.Tryz.prog 110 87 vs H pv H' := by
  obtain ⟨x, y, rfl, h1⟩ := arg2_true (show arg2 vs _ = true from h)
  obtain ⟨b, off, rfl, h2⟩ := asPtr_true h1
  obtain ⟨kc, z, rfl, h3⟩ := asI_true h2
  obtain ⟨h4, h5⟩ := andK_true h3
  obtain ⟨h6, h7⟩ := andK_true h5
  obtain rfl := beq_true h4
  obtain rfl := beq_true h6
  obtain ⟨o, ho, h8⟩ := Tr.getK_true h7
  obtain ⟨l, fz, et, rfl, h9⟩ := asCells_true h8
  obtain ⟨h10, h11⟩ := andK_true h9
  have het := eqON_true h10
  subst het
  obtain ⟨h12, h13⟩ := dropL_true h11
  obtain ⟨h14, h15⟩ := takeL_true h13
  have h15 := appL_true h15
  refine ⟨_, H, h15, fun ι w args hv hH => ⟨callFunc_enter (by decide +kernel) args w, ?_⟩⟩
  obtain ⟨v, u, e1, ⟨q, hq, rfl⟩, hz⟩ := RL2 hv
  have hz : u = .int .i64 z := hz
  subst hz
  obtain ⟨q', c, e, f, g1, g2, g3, g4, g5, g6⟩ := hH.obj _ _ ho
  rw [hq] at g1
  cases g1
  obtain ⟨rfl, hb0⟩ := g3.2 _ rfl
  have e1 : args = #[.pointer (some ⟨q.block, 0, none⟩), .int .i64 z] := by
    rw [hb0] at e1
    exact Array.ext' e1
  rw [e1]
  have hl : ((l.drop 17).take 17).length = 17 := by rw [List.length_take]; omega
  obtain ⟨us, hus, hlen⟩ : ∃ us : List Value, RL (CR ι) ((l.drop 17).take 17) us ∧ ∀ i v, us[i]? = some v → c[17 + i]? = some v := by
    have : ∀ (m : List Sc) (o : Nat), (∀ i y, m[i]? = some y → ∃ v, c[o + i]? = some v ∧ CR ι y v) → ∃ us : List Value, RL (CR ι) m us ∧ ∀ i v, us[i]? = some v → c[o + i]? = some v := by
      intro m
      induction m with
      | nil => exact fun o _ => ⟨[], trivial, fun i v h => by simp at h⟩
      | cons y m ih =>
        intro o hm
        obtain ⟨v, hv1, hv2⟩ := hm 0 y rfl
        obtain ⟨us, h1, h2⟩ := ih (o + 1) fun i y' hy => by
          obtain ⟨v', h3, h4⟩ := hm (i + 1) y' (by simpa using hy)
          exact ⟨v', by rw [← h3]; congr 1; omega, h4⟩
        refine ⟨v :: us, ⟨hv2, h1⟩, fun i v' hi => ?_⟩
        cases i with
        | zero => simp at hi; subst hi; exact hv1
        | succ i => rw [← h2 i v' (by simpa using hi)]; congr 1; omega
    refine this _ 17 fun i y hy => ?_
    rw [List.getElem?_take] at hy
    split at hy
    · rw [List.getElem?_drop] at hy
      obtain ⟨v, q1, q2⟩ := g5 (17 + i) y hy
      rw [hb0, Nat.zero_add] at q1
      exact ⟨v, q1, q2⟩
    · cases hy
  have hul : us.length = 17 := by rw [← hus.length, hl]
  match us, hul with
  | [c0, c1, c2, c3, c4, c5, c6, c7, c8, c9, c10, c11, c12, c13, c14, c15, c16], _ =>
    refine Calls.mono (fail_walk q.block c0 c1 c2 c3 c4 c5 c6 c7 c8 c9 c10 c11 c12 c13 c14 c15 c16 z w fun i v hi => ?_) ?_
    · rw [Addr.add_lit, cell_at g2]
      exact hlen i v hi
    · rintro e' w' ⟨rfl, rfl⟩
      refine ⟨_, rfl, _, rfl, ι, Ext.refl _ _ _, hH, _, rfl, ?_⟩
      have h1 : RL (CR ι) [Sc.int 3 z] [Value.int .i64 z] := ⟨⟨rfl, rfl⟩, trivial⟩
      exact hus.append h1
/-- the ways: function by function, to fail -/
noncomputable def panL (D : Dt) (fs : List (Nat × List PStep)) : Nat → List Va → Hp → (List Sc → Hp → Bool) → Bool :=
  match fs with
  | [] => fun f vs H kp => andK (Nat.beq f 87) (failK vs H kp)
  | (g, p) :: fs => fun f vs H kp => andK (Nat.beq f g) (panF CP D f p vs H fun g vs H => panL D fs g vs H kp)
theorem panL_sound [Sig] {D : Dt} (hD : DS Go.Proofs.Tryz.prog D) : ∀ {fs : List (Nat × List PStep)} {f : Nat} {vs : List Va} {H : Hp} {kp : List Sc → Hp → Bool}, panL D fs f vs H kp = true → ∃ pv H', kp pv H' = true ∧ CallPans Go.Proofs.Tryz.prog 110 f vs H pv H'
  | [], f, vs, H, kp, h => by
    obtain ⟨h1, h2⟩ := andK_true (show andK (Nat.beq f 87) (failK vs H kp) = true from h)
    obtain rfl := beq_true h1
    exact fail_sound h2
  | (g, p) :: fs, f, vs, H, kp, h => by
    obtain ⟨h1, h2⟩ := andK_true (show andK (Nat.beq f g) (panF CP D f p vs H fun g vs H => panL D fs g vs H kp) = true from h)
    obtain ⟨g', vs', H1, h3, h4⟩ := panF_sound (T := 110) CP_ok hD h2
    obtain ⟨pv, H', h5, h6⟩ := panL_sound hD h3
    exact ⟨pv, H', h5, h4 pv H' h6⟩
end Go.Proofs.YtmdciljpcnokcaaGreatDoor.Ex
