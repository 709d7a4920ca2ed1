/-
  A run of closed code by the kernel: the kernel's frame mends what panics.
-/
import Derived.Test.YtmdciljpcnokcaaGreatDoorEzS
import Derived.Test.YtmdciljpcnokcaaGreatDoorSyT
namespace Go.Proofs.YtmdciljpcnokcaaGreatDoor.Ex
open Go.RowKit
/-! ### Code of a frame whose function is known -/
section
variable {P : Program} {f : Nat} {Q : Exit → Act → World → Prop} {a : Act} {w : World}
def wpF (P : Program) (f : Nat) (c : Code) (Q : Exit → Act → World → Prop) (a : Act) (w : World) : Prop :=
  ∀ (b : Frame) (k : List Item) (cs : List Frame), b.fn = f → ∃ e a' w', Q e a' w' ∧ Arrives P (lone (b.at a (.code c :: k)) cs w) b k cs e a' w'
theorem wpF_of_wp {c : Code} (h : c.wp P Q a w) : wpF P f c Q a w := fun b k cs _ => h b k cs
theorem wpF_seq {x y : Code} (h : wpF P f x (Exit.then (wpF P f y Q) Q) a w) : wpF P f (.seq x y) Q a w := by
  intro b k cs hb
  obtain ⟨e, a₁, w₁, hq, harr⟩ := h b (.code y :: k) cs hb
  cases e with
  | normal =>
    obtain ⟨e₂, a₂, w₂, hq₂, harr₂⟩ := hq b k cs hb
    exact ⟨e₂, a₂, w₂, hq₂, .of_steps (.head step_seq harr) harr₂⟩
  | exit id => exact ⟨_, a₁, w₁, hq, .of_steps (.one step_seq) (.pass (x := .code y) rfl (fun _ _ => .inl (by simp)) harr)⟩
  | goto l => exact ⟨_, a₁, w₁, hq, .of_steps (.one step_seq) (.pass (x := .code y) rfl (fun _ _ => .inl (by simp)) harr)⟩
  | ret => exact ⟨_, a₁, w₁, hq, .of_steps (.one step_seq) (.pass (x := .code y) rfl (fun _ _ => .inl (by simp)) harr)⟩
  | panic ch => exact ⟨_, a₁, w₁, hq, .of_steps (.one step_seq) (.pass (x := .code y) rfl (fun _ _ => .inl (by simp)) harr)⟩
  | outgrown => exact ⟨_, a₁, w₁, hq, .of_steps (.one step_seq) (.pass (x := .code y) rfl (fun _ _ => .inl (by simp)) harr)⟩
theorem wpF_cond {c : Operand} {x y : Code} {t : Bool} (hc : a.eval c = .bool t) (h : wpF P f (if t then x else y) Q a w) : wpF P f (.cond c x y) Q a w :=
  fun b k cs hb => let ⟨e, a', w', q, r⟩ := h b k cs hb; ⟨e, a', w', q, .of_steps (.one (step_cond hc)) r⟩
theorem wpF_goes [Sig] {n : Nat} {c : Code} {fr fr' : Fr} {H H' : Hp} {e : Out} (hg : CodeGoes P f n c fr H e fr' H') (hrd : fr.rd = none) (he : ∀ i, e ≠ .x i) {ι : Inj} (hR : Rel ι n fr H a w)
    (hQ : ∀ ex ι' a' w', (ex = .normal ∨ ex = .ret) → Ext ι H w ι' H' w' → Rel ι' n fr' H' a' w' → Q ex a' w') : wpF P f c Q a w := by
  intro b k cs hb
  obtain ⟨a', w', ι', hE, hR', hA⟩ := hg.2 ι a w none (by rw [hrd]; rfl) hR { b with roundOf := none } k cs rfl hb
  cases e with
  | n => exact ⟨.normal, a', w', hQ _ _ _ _ (.inl rfl) hE hR', hA⟩
  | r =>
    obtain ⟨k0, hs⟩ := hA
    exact ⟨.ret, a', w', hQ _ _ _ _ (.inr rfl) hE hR', _, Steps.trans hs (.one step_ret)⟩
  | x i => exact absurd rfl (he i)
/-- a deferred call whose first statement may look at what panics -/
theorem callsD_first {fn : Func} {r0 rest : Code} {args : Array Value} {u : FrameMode} {R : Ending → FrameMode → World → Prop} (hf : P.funcs[f]? = some fn) (hb : fn.body = some (.seq r0 rest))
    (h : ∀ (c₀ : Frame) (cs : List Frame), c₀.mode = u → r0.wpS P (fun e a' cs' w' => e = .normal ∧ wpF P f rest (fun e a'' w'' => bodyPostS P fn c₀ cs R e a'' cs' w'') a' w') { tmps := args ++ Array.replicate (fn.ntmps - args.size) undef, defers := [] } (c₀ :: cs) w) :
    CallsD P f args u w R := by
  intro c₀ cs hu
  let b : Frame := { (default : Frame) with fn := f, kind := .deferred }
  have henter : Frame.enter P f args .deferred = b.at { tmps := args ++ Array.replicate (fn.ntmps - args.size) undef, defers := [] } [.code (.seq r0 rest)] := by
    simp [Frame.enter, Frame.at, hf, hb, b]
  obtain ⟨e, a', cs', w', ⟨rfl, hq⟩, harr⟩ := h c₀ cs hu b [.code rest] rfl rfl
  obtain ⟨e, a'', w'', hq, harr2⟩ := hq b [] cs' rfl
  have harr2 : Arrives P (lone (Frame.enter P f args .deferred) (c₀ :: cs) w) b [] cs' e a'' w'' := by
    rw [henter]
    exact .of_steps (.head step_seq harr) harr2
  cases e with
  | normal =>
    obtain ⟨hd, u', rfl, v, hr, hR⟩ := hq
    exact ⟨.returned v, u', w'', _, hR, Steps.trans harr2 (.one step_end), rfl, rfl, hd, fn, hf, hr⟩
  | ret =>
    obtain ⟨hd, u', rfl, v, hr, hR⟩ := hq
    obtain ⟨todo, hs⟩ := harr2
    exact ⟨.returned v, u', w'', _, hR, hs, rfl, rfl, hd, fn, hf, hr⟩
  | panic chain =>
    obtain ⟨hd, u', rfl, hR⟩ := hq
    obtain ⟨todo, hs⟩ := harr2
    exact ⟨.panicked chain, u', w'', _, hR, hs, rfl, rfl, hd, fn, hf⟩
  | exit id => exact hq.elim
  | goto l => exact hq.elim
  | outgrown =>
    obtain ⟨u', hR⟩ := hq
    exact ⟨.outgrown, u', w'', b, hR, harr2.resolve_left (by simp [b]), rfl, trivial⟩
end
noncomputable def unkT (d : Nat) : Tn := Nat.rec (.lf (.s (.oth .unk))) (fun _ t => .nd t t) d
theorem unkT_get : ∀ (d t : Nat), (unkT d).get t = .s (.oth .unk)
  | 0, t => by
    change (Tn.lf (.s (.oth .unk))).get t = _
    unfold Tn.get
    split <;> rfl
  | d + 1, t => by
    change (Tn.nd (unkT d) (unkT d)).get t = _
    unfold Tn.get
    split
    · exact unkT_get d _
    · exact unkT_get d _
/-- what the mending closure does, once it has what was thrown -/
noncomputable def tailT : Code := match Tryz.f47.body with
  | some (.seq _ (.seq _ (.cond _ (.seq _ t) _))) => t
  | _ => .skip
noncomputable def tailK (D : Dt) (b0 q : Nat) (H : Hp) (k : Hp → Bool) : Bool :=
  (unkT 6).setK (.s (.ptr b0 0)) 0 fun t1 => t1.setK (.s (.ptr q 0)) 2 fun t2 => t2.setK (.s (.bool true)) 3 fun tm =>
    (comp CP 47 34 tailT).run D (fun fr H => nilN fr.ds (k H)) (fun _ _ _ => false) (fun fr H => nilN fr.ds (k H)) ⟨tm, [], none⟩ H
theorem tail_goes [Sig] {D : Dt} (hD : DS Go.Proofs.Tryz.prog D) {b0 q : Nat} {H : Hp} {k : Hp → Bool} (h : tailK D b0 q H k = true) : ∃ H', k H' = true ∧ ∀ ι w (a : Act), HR ι H w → a.tmps.size = 34 → a.defers = [] →
    Va.R ι (.s (.ptr b0 0)) (a.tmps.getD 0 undef) → Va.R ι (.s (.ptr q 0)) (a.tmps.getD 2 undef) → a.tmps.getD 3 undef = .bool true → ∀ Q : Exit → Act → World → Prop,
      (∀ ex ι' a' w', (ex = .normal ∨ ex = .ret) → Ext ι H w ι' H' w' → HR ι' H' w' → a'.defers = [] → Q ex a' w') → wpF Go.Proofs.Tryz.prog 47 tailT Q a w := by
  obtain ⟨t1, h1, h2, h3⟩ := Tn.setK_true (show (unkT 6).setK (.s (.ptr b0 0)) 0 _ = true from h)
  obtain ⟨t2, h4, h5, h6⟩ := Tn.setK_true h1
  obtain ⟨t3, h7, h8, h9⟩ := Tn.setK_true h4
  obtain ⟨e, fr', H', hk, hg⟩ := comp_sound CP_ok tailT D _ _ _ _ H hD h7
  have hend : (∀ i, e ≠ .x i) ∧ fr'.ds = [] ∧ k H' = true := by
    cases e with
    | n => obtain ⟨g1, g2⟩ := nilN_true hk; exact ⟨by simp, g1, g2⟩
    | r => obtain ⟨g1, g2⟩ := nilN_true hk; exact ⟨by simp, g1, g2⟩
    | x i => cases hk
  refine ⟨H', hend.2.2, fun ι w a hH hsz hd r0 r2 r3 Q hQ => ?_⟩
  refine wpF_goes hg rfl hend.1 (ι := ι) ⟨⟨hsz, fun t ht => ?_⟩, by rw [hd]; exact trivial, hH⟩ fun ex ι' a' w' hx hE hR => hQ ex ι' a' w' hx hE hR.hr ?_
  · by_cases e3 : t = 3
    · subst e3
      rw [h8, r3]
      exact rfl
    · rw [h9 t e3]
      by_cases e2 : t = 2
      · subst e2
        rw [h5]
        exact r2
      · rw [h6 t e2]
        by_cases e0 : t = 0
        · subst e0
          rw [h2]
          exact r0
        · rw [h3 t e0, unkT_get]
          exact trivial
  · have := hR.ds
    rw [hend.2.1] at this
    cases hq : a'.defers with
    | nil => rfl
    | cons => rw [hq] at this; exact this.elim
theorem failZero : ∃ z : Value, (Go.Proofs.Tryz.prog.info? 110).map (fun i => (i.zero, i.size)) = some (some z, 18) ∧ z.cells.size = 18 :=
  ⟨.agg #[.int .u64 0, .int .i64 0, .int .i64 0, .int .i64 0, .slice none 0 0, .slice none 0 0, .int .i64 0, .string ⟨#[]⟩, .slice none 0 0, .int .i64 0, .string ⟨#[]⟩, .bool false, .int .u64 0, .slice none 0 0, .slice none 0 0, .int .i64 0, .slice none 0 0, .int .i64 0], by kernel_rfl, rfl⟩
set_option maxHeartbeats 4000000 in
set_option maxRecDepth 100000 in
theorem catch_walk (p : Value) (cs : List Value) (hl : cs.length = 18) (h1 : ∀ v ∈ cs, v.oneCell' = true) (w : World) (R : World → Prop)
    (ht : ∀ a : Act, a.tmps.size = 34 → a.defers = [] → a.tmps.getD 0 undef = p → a.tmps.getD 2 undef = .pointer (some ⟨w.heap.size, 0, none⟩) → a.tmps.getD 3 undef = .bool true → ∀ Q : Exit → Act → World → Prop,
      (∀ ex a' w', (ex = .normal ∨ ex = .ret) → a'.defers = [] → R w' → Q ex a' w') → wpF Go.Proofs.Tryz.prog 47 tailT Q a (w.alloc (.cells cs.toArray 110))) :
    CallsD Go.Proofs.Tryz.prog 47 #[p] (.panicking [{ v := .iface 110 (.agg cs.toArray), recovered := false }]) w fun e u' w' =>
      e = .returned (.tuple #[]) ∧ u' = .panicking [{ v := .iface 110 (.agg cs.toArray), recovered := true }] ∧ R w' := by
  refine callsD_first Tryz.func47 rfl fun c₀ cs' hu => ?_
  apply wpS_region
  simp [wpOpsS, go_sem, recoverD, hu, Tryz.ntmps47]
  have e0 : #[p] ++ ((Array.replicate 33 undef).setIfInBounds 3 (.iface 110 (.agg cs.toArray))).setIfInBounds 0 (.iface 110 (.agg cs.toArray)) = #[p, .iface 110 (.agg cs.toArray), undef, undef, .iface 110 (.agg cs.toArray), undef, undef, undef, undef, undef, undef, undef, undef, undef, undef, undef, undef, undef, undef, undef, undef, undef, undef, undef, undef, undef, undef, undef, undef, undef, undef, undef, undef, undef] := by kernel_rfl
  rw [e0]
  have hta : ∀ W, (Instr.typeAssert (.iface 110 (.agg cs.toArray)) 20 110 true).run Go.Proofs.Tryz.prog W = .ok (.tuple #[.agg cs.toArray, .bool true]) W := fun W => by kernel_rfl
  apply wpF_seq
  refine wpF_of_wp ?_
  go_wp2
  refine wpF_cond (t := true) rfl ?_
  rw [if_pos rfl]
  apply wpF_seq
  refine wpF_of_wp ?_
  obtain ⟨z, hz1, hz2⟩ := failZero
  rw [← hl] at hz1 hz2
  have HT := Lib.hid ht
  clear ht e0
  go_wp2_with (refine wpList_fresh rfl rfl 110 2 (.tmp 10) rfl rfl rfl rfl cs rfl rfl z hz1 hz2 h1 ?_)
  refine HT.out _ rfl rfl rfl rfl rfl _ ?_
  rintro ex a' w' (rfl | rfl) hd hR
  · exact ⟨hd, _, rfl, .tuple #[], by simp [results, Tryz.results47, go_sem], rfl, rfl, hR⟩
  · exact ⟨hd, _, rfl, .tuple #[], by simp [results, Tryz.results47, go_sem], rfl, rfl, hR⟩
set_option maxHeartbeats 1000000 in
set_option maxRecDepth 100000 in
theorem try_pan (w : World) (q : Option Addr) (n : Value) (Q : World → Prop) (hc : Calls Go.Proofs.Tryz.prog 49 #[.pointer q, n] (w.alloc (.cells #[.pointer q] 81)) fun e w' => ∃ v, e = .panicked [{ v := v, recovered := false }] ∧
      CallsD Go.Proofs.Tryz.prog 47 #[.pointer (some ⟨w.heap.size, 0, none⟩)] (.panicking [{ v := v, recovered := false }]) w' fun e u' w'' => e = .returned (.tuple #[]) ∧ u' = .panicking [{ v := v, recovered := true }] ∧ Q w'') :
    Calls Go.Proofs.Tryz.prog 24 #[.pointer q, n] w fun e w' => e = .returned (.tuple #[]) ∧ Q w' := by
  have hmf : ∀ (fn : Fn) (first cap : Array Value) (w : World), (Instr.makeFunc fn first cap).run Go.Proofs.Tryz.prog w = .ok (.func fn first cap) w := fun _ _ _ _ => rfl
  have HC := Lib.hid hc
  have c0 : (w.alloc (.cells #[.pointer q] 81)).cell? ⟨w.heap.size, 0, none⟩ = some (.pointer q) := (Whole.made w 81 #[.pointer q]).cell 0
  clear hc
  go_enter_defers Tryz.func24, Tryz.ntmps24
  go_wp2_with fail
  refine HC.out.mono ?_
  rintro e w1 ⟨v, rfl, hq⟩
  have HQ := Lib.hid hq
  clear hq HC c0 hmf
  show Leaves _ _ _ _ _ _ _
  refine leaves_cons (f := 47) (args := #[.pointer (some ⟨w.heap.size, 0, none⟩)]) (by simp) (by simp [go_sem]) ?_
  refine HQ.out.mono ?_
  rintro e u' w'' ⟨rfl, rfl, hq⟩
  dsimp only
  have hst : settle (.panicking ({ v := v, recovered := true } :: [])) = .returning := rfl
  rw [hst]
  exact ⟨_, by simp [results, Tryz.results24, go_sem], rfl, hq⟩
/-- the kernel's frame, where a call panics by one of the ways -/
noncomputable def irPan (D : Dt) (fs : List (Nat × List PStep)) : Ir := ⟨fun vs H k => arg2 vs fun x y => asPtr x fun kb koff => newK 81 [.ptr kb koff] H fun b0 H1 => panL D fs 49 [.s (.ptr kb koff), y] H1 fun pv H2 =>
  andK (Nat.beq (lenS pv) 18) (newK 110 pv H2 fun q H3 => tailK D b0 q H3 fun H4 => k (.t []) H4)⟩
theorem cells_one [Sig] {ι : Inj} : ∀ {l : List Sc} {cs : List Value}, RL (CR ι) l cs → ∀ v ∈ cs, v.oneCell' = true
  | [], [], _, v, hv => by cases hv
  | [], _ :: _, h, _, _ => h.elim
  | _ :: _, [], h, _, _ => h.elim
  | x :: l, u :: cs, h, v, hv => by
    rcases List.mem_cons.1 hv with rfl | hv
    · have := h.1.2
      cases v <;> first | rfl | cases this
    · exact cells_one h.2 v hv
theorem irPan_sound [Sig] {D : Dt} (hD : DS Go.Proofs.Tryz.prog D) (fs : List (Nat × List PStep)) : IrSound Go.Proofs.Tryz.prog 24 (irPan D fs) := by
  intro vs H k h
  obtain ⟨x, y, rfl, h1⟩ := arg2_true (show arg2 vs _ = true from h)
  obtain ⟨kb, koff, rfl, h2⟩ := asPtr_true h1
  rw [newK_eq] at h2
  obtain ⟨t1, h3, h3a, h3b⟩ := Tr.setK_true h2
  obtain ⟨pv, H2, h4, hpan⟩ := panL_sound hD h3
  obtain ⟨h5, h6⟩ := andK_true h4
  have hpl : pv.length = 18 := by rw [← lenS_eq]; exact beq_true h5
  obtain ⟨H3, h7, hnew⟩ := newK_true h6
  obtain ⟨H4, h8, htail⟩ := tail_goes hD h7
  refine ⟨_, H4, h8, fun ι w args hv hH => ⟨callFunc_enter (by decide +kernel) args w, ?_⟩⟩
  obtain ⟨p, n, e1, ⟨z, hz, rfl⟩, hn⟩ := RL2 hv
  have e1 : args = #[.pointer (some ⟨z.block, z.base + koff, none⟩), n] := Array.ext' e1
  subst e1
  obtain ⟨hH1, hE1⟩ := hH.alloc (.cells #[.pointer (some ⟨z.block, z.base + koff, none⟩)] 81) 1 (H := H) h3a h3b (show Ob.R _ _ _ _ from ⟨⟨w.heap.size, 0, 1⟩, _, _, _, Inj.more_same, World.alloc_heap_new _ _, ⟨by simp, fun t ht => by cases ht; exact ⟨rfl, rfl⟩⟩, by simp, fun i u hu => by
    cases i with
    | zero =>
      simp at hu
      subst hu
      exact ⟨_, rfl, ⟨z, Inj.le_more (hH.fresh _ (Nat.le_refl _)).1 |>.loc _ _ hz, rfl⟩, rfl⟩
    | succ i => simp at hu, fun _ i _ => by simp⟩)
  have hv1 : RL (Va.R (ι.more H.nx ⟨w.heap.size, 0, 1⟩)) [.s (.ptr kb koff), y] (#[.pointer (some ⟨z.block, z.base + koff, none⟩), n] : Array Value).toList := hv.mono fun _ _ hh => hh.mono hE1.le
  refine Calls.mono (try_pan w (some ⟨z.block, z.base + koff, none⟩) n (fun w' => ∃ ι', Ext ι H w ι' H4 w' ∧ HR ι' H4 w') ?_) ?_
  · obtain ⟨_, hcall⟩ := hpan _ _ _ hv1 hH1
    refine Calls.mono hcall ?_
    rintro e w1 ⟨ch, rfl, v, rfl, ι2, hE2, hH2, cs, rfl, hcs⟩
    have hcl : cs.toList.length = 18 := by rw [← hcs.length, hpl]
    obtain ⟨hH3, hE3⟩ := hnew ι2 w1 cs (0, 0) hH2 (by rw [hpl]; simp at hcl; omega) (by rw [hpl, List.take_of_length_le (by omega)]; exact hcs) (fun i _ => by simp)
    refine ⟨_, rfl, ?_⟩
    have hb0 : ι2.loc H.nx = some ⟨w.heap.size, 0, 1⟩ := hE2.loc _ _ Inj.more_same
    have := catch_walk (.pointer (some ⟨w.heap.size, 0, none⟩)) cs.toList hcl (cells_one hcs) w1 (fun w' => ∃ ι', Ext ι H w ι' H4 w' ∧ HR ι' H4 w') fun a ha hd r0 r2 r3 Q hQ => by
      rw [show cs.toList.toArray = cs by simp]
      refine htail _ _ a hH3 ha hd ?_ ?_ r3 Q fun ex ι' a' w' hx hE hR hd' => hQ ex a' w' hx hd' ⟨ι', ((hE1.trans hE2).trans hE3).trans hE, hR⟩
      · rw [r0]
        exact ⟨⟨w.heap.size, 0, 1⟩, hE3.loc _ _ hb0, rfl⟩
      · rw [r2]
        exact ⟨⟨w1.heap.size, 0, cs.size⟩, Inj.more_same, rfl⟩
    rwa [show cs.toList.toArray = cs by simp] at this
  · rintro e w' ⟨rfl, ι', hE, hR⟩
    exact ⟨_, rfl, ι', hE, hR, #[], rfl, trivial⟩
end Go.Proofs.YtmdciljpcnokcaaGreatDoor.Ex
