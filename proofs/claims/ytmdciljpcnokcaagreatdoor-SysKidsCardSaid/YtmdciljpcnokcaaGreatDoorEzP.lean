/-
  A run of closed code by the kernel: calls that panic: the way to the call that panics, function by function.
-/
import Derived.Test.YtmdciljpcnokcaaGreatDoorEzK
namespace Go.Proofs.YtmdciljpcnokcaaGreatDoor.Ex
open Go.RowKit
/-- a step of the way to the call that panics -/
inductive PStep where
  | r
  | l
  | c
  | b
  | o (j : Nat)
noncomputable def nilN (l : List Nat) (k : Bool) : Bool := List.rec k (fun _ _ _ => false) l
theorem nilN_true {l : List Nat} {k : Bool} (h : nilN l k = true) : l = [] ∧ k = true := by
  cases l with
  | nil => exact ⟨rfl, h⟩
  | cons => cases h
noncomputable def fnK (vs : List Va) (k : Nat → List Va → Bool) : Bool := List.rec false (fun fv vs _ => asS fv fun x => Sc.rec (fun _ _ => false) (fun _ _ => false) (fun _ _ => false) (fun _ => false) (fun _ _ _ _ _ => false)
  (fun o => Ot.rec false false false false false false (fun f => k f vs) (fun _ _ => false) (fun _ => false) (fun _ => false) false (fun _ => false) o) x) vs
theorem fnK_true {vs : List Va} {k : Nat → List Va → Bool} (h : fnK vs k = true) : ∃ f us, vs = .s (.oth (.fn0 f)) :: us ∧ k f us = true := by
  match vs, h with
  | [], h => cases h
  | fv :: us, h =>
    obtain ⟨x, rfl, h1⟩ := asS_true (show asS fv _ = true from h)
    cases x with
    | oth ot =>
      cases ot with
      | fn0 f => exact ⟨f, us, rfl, h1⟩
      | _ => cases h1
    | _ => cases h1
noncomputable def escK (C : Cmp) (n : Nat) (o : Option Oper) (K : Nat → List Va → Hp → Bool) (fr : Fr) (H : Hp) : Bool :=
  match o with
  | some o => match o.op, o.guard with
    | .call { callee := .value fo, args := args, argTypes := _ }, none => nilN fr.ds (evalL ((fo :: args.toList).map (C.gt n)) fr.tm fun vs => fnK vs fun g vs => K g vs H)
    | _, _ => false
  | none => false
noncomputable def pathK (C : Cmp) (D : Dt) (f n : Nat) (K : Nat → List Va → Hp → Bool) : List PStep → Code → Fr → Hp → Bool
  | [], _, _, _ => false
  | s :: ss, c, fr, H => match s, c with
    | .r, .seq a b => (comp C f n a).run D (fun fr H => pathK C D f n K ss b fr H) (fun _ _ _ => false) (fun _ _ => false) fr H
    | .l, .seq a _ => pathK C D f n K ss a fr H
    | .c, .cond g a b => (C.gt n g).run fr.tm fun v => asB v fun t => Bool.rec (pathK C D f n K ss b fr H) (pathK C D f n K ss a fr H) t
    | .b, .block _ a => pathK C D f n K ss a fr H
    | .o j, .region _ ops false => opsR ((ops.toList.take j).map (compO C n ops)) D fr H fun fr H => escK C n ops[j]? K fr H
    | _, _ => false
section
variable {P : Program} {f n : Nat}
theorem opsP_true [Sig] {ops : Array Oper} {D : Dt} (hD : DS P D) : ∀ {ods : List Od} {l : List Oper} {fr : Fr} {H : Hp} {k : Fr → Hp → Bool}, RL (fun d o => OdSound P n ops o d) ods l → opsR ods D fr H k = true →
    ∃ fr' H', k fr' H' = true ∧ fr'.rd = fr.rd ∧ ∀ ι a w, Rel ι n fr H a w → ∀ (b : Frame) (cs : List Frame) (i : Nat) (m : List Nat) (ks : List Item), (∀ j, j < l.length → l[j]? = ops[i + j]?) →
      ∃ a' w' ι', Ext ι H w ι' H' w' ∧ Rel ι' n fr' H' a' w' ∧ Steps P (lone (b.atR a (.inRegion ops (List.range' i l.length ++ m) :: ks)) cs w) (lone (b.atR a' (.inRegion ops m :: ks)) cs w')
  | [], [], fr, H, k, _, h => ⟨fr, H, h, rfl, fun ι a w hR b cs i m ks _ => ⟨a, w, ι, Ext.refl _ _ _, hR, .refl _ _⟩⟩
  | d :: ods, o :: l, fr, H, k, ⟨h1, h2⟩, h => by
    obtain ⟨fr₁, H₁, h3, hrd, hg⟩ := h1 D fr H _ hD h
    obtain ⟨fr', H', h4, hrd', hg'⟩ := opsP_true hD h2 h3
    refine ⟨fr', H', h4, hrd'.trans hrd, fun ι a w hR b cs i m ks hl => ?_⟩
    have h0 : ops[i]? = some o := by simpa using (hl 0 (by simp)).symm
    obtain ⟨a₁, w₁, ι₁, hE, hR₁, hs⟩ := hg ι a w hR b cs i (List.range' (i + 1) l.length ++ m) ks h0
    obtain ⟨a₂, w₂, ι₂, hE₂, hR₂, hs₂⟩ := hg' ι₁ a₁ w₁ hR₁ b cs (i + 1) m ks (fun j hj => by have := hl (j + 1) (by simp; omega); simpa [Nat.add_assoc, Nat.add_comm 1 j] using this)
    exact ⟨a₂, w₂, ι₂, hE.trans hE₂, hR₂, by simpa [List.range'_succ] using Steps.trans hs hs₂⟩
  | [], _ :: _, _, _, _, h, _ => h.elim
  | _ :: _, [], _, _, _, h, _ => h.elim
end
/-- a call that panics, and with what chain in which world -/
def PanTo (P : Program) (g : Nat) (args : Array Value) (w : World) (Φ : List PanicEntry → World → Prop) : Prop :=
  (callFunc g args).run P w = .ok (.enter g args) w ∧ Calls P g args w fun e w' => ∃ chain, e = .panicked chain ∧ Φ chain w'
theorem path_sound [Sig] {C : Cmp} (hC : CmpOk C) {D : Dt} (hD : DS C.P D) {f n : Nat} {K : Nat → List Va → Hp → Bool} : ∀ {ss : List PStep} {c : Code} {fr : Fr} {H : Hp}, pathK C D f n K ss c fr H = true → fr.rd = none →
    ∃ g vs' H1, K g vs' H1 = true ∧ ∀ ι a w, Rel ι n fr H a w → ∀ Φ : List PanicEntry → World → Prop, (∀ ι' w' (args' : Array Value), Ext ι H w ι' H1 w' → RL (Va.R ι') vs' args'.toList → HR ι' H1 w' → PanTo C.P g args' w' Φ) →
      ∀ (b : Frame) (k : List Item) (cs : List Frame), b.fn = f → ∃ chain a' w' todo, a'.defers = [] ∧ Φ chain w' ∧ Steps C.P (lone (b.at a (.code c :: k)) cs w) (lone { b.at a' todo with mode := .panicking chain } cs w')
  | [], _, _, _, h, _ => by cases h
  | s :: ss, c, fr, H, h, hrd => by
    cases s with
    | r =>
      cases c with
      | seq x y =>
        have h : (comp C f n x).run D (fun fr H => pathK C D f n K ss y fr H) (fun _ _ _ => false) (fun _ _ => false) fr H = true := h
        obtain ⟨e, fr1, H1, hk, hrd1, hg⟩ := comp_sound hC x D _ _ _ fr H hD h
        cases e with
        | n =>
          obtain ⟨g, vs', H2, h2, h3⟩ := path_sound hC hD (show pathK C D f n K ss y fr1 H1 = true from hk) (hrd1.trans hrd)
          refine ⟨g, vs', H2, h2, fun ι a w hR Φ hΦ b k cs hb => ?_⟩
          obtain ⟨a1, w1, ι1, hE, hR1, hA⟩ := hg ι a w none (by rw [hrd]; rfl) hR { b with roundOf := none } (.code y :: k) cs rfl hb
          obtain ⟨ch, a2, w2, todo, e1, e2, e3⟩ := h3 ι1 a1 w1 hR1 Φ (fun ι' w' args' hE' => hΦ ι' w' args' (hE.trans hE')) b k cs hb
          exact ⟨ch, a2, w2, todo, e1, e2, Steps.trans (.head step_seq hA) e3⟩
        | x id => cases hk
        | r => cases hk
      | _ => cases h
    | l =>
      cases c with
      | seq x y =>
        obtain ⟨g, vs', H2, h2, h3⟩ := path_sound hC hD (show pathK C D f n K ss x fr H = true from h) hrd
        refine ⟨g, vs', H2, h2, fun ι a w hR Φ hΦ b k cs hb => ?_⟩
        obtain ⟨ch, a2, w2, todo, e1, e2, e3⟩ := h3 ι a w hR Φ hΦ b (.code y :: k) cs hb
        exact ⟨ch, a2, w2, todo, e1, e2, .head step_seq e3⟩
      | _ => cases h
    | c =>
      cases c with
      | cond o x y =>
        obtain ⟨v, h1, hv⟩ := hC.gt n o _ _ (show (C.gt n o).run fr.tm (fun v => asB v fun t => Bool.rec (pathK C D f n K ss y fr H) (pathK C D f n K ss x fr H) t) = true from h)
        obtain ⟨t, rfl, h2⟩ := asB_true h1
        cases t with
        | true =>
          obtain ⟨g, vs', H2, h3, h4⟩ := path_sound hC hD (show pathK C D f n K ss x fr H = true from h2) hrd
          refine ⟨g, vs', H2, h3, fun ι a w hR Φ hΦ b k cs hb => ?_⟩
          obtain ⟨ch, a2, w2, todo, e1, e2, e3⟩ := h4 ι a w hR Φ hΦ b k cs hb
          exact ⟨ch, a2, w2, todo, e1, e2, .head (step_cond (t := true) (hv ι a hR.tm)) e3⟩
        | false =>
          obtain ⟨g, vs', H2, h3, h4⟩ := path_sound hC hD (show pathK C D f n K ss y fr H = true from h2) hrd
          refine ⟨g, vs', H2, h3, fun ι a w hR Φ hΦ b k cs hb => ?_⟩
          obtain ⟨ch, a2, w2, todo, e1, e2, e3⟩ := h4 ι a w hR Φ hΦ b k cs hb
          exact ⟨ch, a2, w2, todo, e1, e2, .head (step_cond (t := false) (hv ι a hR.tm)) e3⟩
      | _ => cases h
    | b =>
      cases c with
      | block id x =>
        obtain ⟨g, vs', H2, h2, h3⟩ := path_sound hC hD (show pathK C D f n K ss x fr H = true from h) hrd
        refine ⟨g, vs', H2, h2, fun ι a w hR Φ hΦ b k cs hb => ?_⟩
        obtain ⟨ch, a2, w2, todo, e1, e2, e3⟩ := h3 ι a w hR Φ hΦ b (.inBlock id :: k) cs hb
        exact ⟨ch, a2, w2, todo, e1, e2, .head step_block e3⟩
      | _ => cases h
    | o j =>
      cases c with
      | region id ops draw =>
        cases draw with
        | true => cases h
        | false =>
          have h : opsR ((ops.toList.take j).map (compO C n ops)) D fr H (fun fr H => escK C n ops[j]? K fr H) = true := h
          obtain ⟨fr1, H1, h1, hrd1, hg⟩ := opsP_true (n := n) (ops := ops) hD (RL_map (fun o => opC_sound (gkOf_sound n ops o) (RL_map (hC.gt n) _) (hC.cr o)) _) h
          unfold escK at h1
          cases ho : ops[j]? with
          | none => rw [ho] at h1; cases h1
          | some o =>
            rw [ho] at h1
            simp only at h1
            split at h1
            · rename_i fo args ats hop hgd
              obtain ⟨hds, h2⟩ := nilN_true h1
              obtain ⟨us, h3, hus⟩ := evalL_true (RL_map (R := GtSound C.P n) (g := C.gt n) (hC.gt n) (fo :: args.toList)) h2
              obtain ⟨g, vs', rfl, h4⟩ := fnK_true h3
              refine ⟨g, vs', H1, h4, fun ι a w hR Φ hΦ b k cs hb => ?_⟩
              have hj : j < ops.size := (Array.getElem?_eq_some_iff.1 ho).1
              have hlen : (ops.toList.take j).length = j := by rw [List.length_take, Array.length_toList]; omega
              obtain ⟨a1, w1, ι1, hE, hR1, hs⟩ := hg ι a w hR { b with roundOf := none } cs 0 (j :: List.range' (j + 1) (ops.size - j - 1)) k (fun t ht => by
                rw [hlen] at ht
                rw [List.getElem?_take_of_lt ht, Nat.zero_add, Array.getElem?_toList])
              rw [hlen] at hs
              have hlist : List.range ops.size = List.range' 0 j ++ (j :: List.range' (j + 1) (ops.size - j - 1)) := by
                rw [List.range_eq_range']
                have e1 : ops.size = j + ((ops.size - j - 1) + 1) := by omega
                have e2 : List.range' 0 j 1 ++ List.range' (0 + 1 * j) ((ops.size - j - 1) + 1) 1 = List.range' 0 (j + ((ops.size - j - 1) + 1)) 1 := List.range'_append ..
                rw [Nat.one_mul, Nat.zero_add, List.range'_succ] at e2
                conv => lhs; rw [e1]
                exact e2.symm
              have hv := hus ι1 a1 hR1.tm
              have hda : a1.defers = [] := by
                have := hR1.ds
                rw [hds] at this
                cases hq : a1.defers with
                | nil => rfl
                | cons => rw [hq] at this; exact this.elim
              have hf : a1.eval fo = .func (.func g) #[] #[] := hv.1
              have hargs : RL (Va.R ι1) vs' (args.map a1.eval).toList := by rw [Array.toList_map]; exact RL_map_right hv.2
              obtain ⟨p1, p2⟩ := hΦ ι1 w1 (args.map a1.eval) hE hargs hR1.hr
              have hrun : (execOp a1.eval o).run C.P w1 = .ok (.enter g (args.map a1.eval)) w1 := by simp [execOp, hop, resolve, hf, Deferred.ofValue, invoke, p1]
              have hw : wpOps C.P ops (fun e a' w' => ∃ chain, e = .panic chain ∧ a' = a1 ∧ Φ chain w') (j :: List.range' (j + 1) (ops.size - j - 1)) a1 w1 := by
                unfold wpOps
                rw [ho]
                simp only []
                rw [if_pos (by simp [Region.wanted, hgd])]
                refine .inl ?_
                unfold Oper.wp
                rw [hrun]
                refine Calls.mono p2 ?_
                rintro e w' ⟨ch, rfl, hφ⟩
                exact ⟨ch, rfl, rfl, hφ⟩
              obtain ⟨e, a2, w2, ⟨ch, rfl, rfl, hφ⟩, harr⟩ := wp_ops _ a1 w1 hw b k cs
              obtain ⟨todo, harr⟩ := harr
              refine ⟨ch, a2, w2, todo, hda, hφ, .head step_region ?_⟩
              rw [hlist]
              exact Steps.trans hs harr
            · cases h1
      | _ => cases h
/-- a function up to the call that panics -/
noncomputable def panF (C : Cmp) (D : Dt) (f : Nat) (p : List PStep) (vs : List Va) (H : Hp) (K : Nat → List Va → Hp → Bool) : Bool :=
  match C.P.funcs[f]? with
  | none => false
  | some fn => match fn.body with
    | none => false
    | some c => if fn.name = "runtime.NumGoroutine" then false else andK (lenK vs fn.ntmps) (argsT vs 0 (fullT (Nat.succ (Nat.log2 fn.ntmps))) fun tm => pathK C D f fn.ntmps K p c ⟨tm, [], none⟩ H)
/-- a call that panics with a struct that is known, behind it this heap -/
def CallPans [Sig] (P : Program) (T : TypeId) (f : Nat) (vs : List Va) (H : Hp) (pv : List Sc) (H' : Hp) : Prop :=
  ∀ ι w (args : Array Value), RL (Va.R ι) vs args.toList → HR ι H w → PanTo P f args w fun ch w' => ∃ v, ch = [{ v := .iface T v, recovered := false }] ∧ Behind ι H w (.g pv) H' v w'
theorem panF_sound [Sig] {C : Cmp} (hC : CmpOk C) {D : Dt} (hD : DS C.P D) {T f : Nat} {p : List PStep} {vs : List Va} {H : Hp} {K : Nat → List Va → Hp → Bool} (h : panF C D f p vs H K = true) :
    ∃ g vs' H1, K g vs' H1 = true ∧ ∀ pv H', CallPans C.P T g vs' H1 pv H' → CallPans C.P T f vs H pv H' := by
  unfold panF at h
  cases hf : C.P.funcs[f]? with
  | none => rw [hf] at h; cases h
  | some fn =>
    rw [hf] at h
    simp only at h
    cases hb : fn.body with
    | none => rw [hb] at h; cases h
    | some c =>
      rw [hb] at h
      simp only at h
      by_cases hname : fn.name = "runtime.NumGoroutine"
      · rw [if_pos hname] at h; cases h
      rw [if_neg hname] at h
      obtain ⟨h1, h2⟩ := andK_true h
      have hlen := lenK_true h1
      obtain ⟨tm, h3, h4, h5⟩ := argsT_true h2
      obtain ⟨g, vs', H1, h6, h7⟩ := path_sound hC hD h3 rfl
      refine ⟨g, vs', H1, h6, fun pv H' hp ι w args hv hH => ⟨?_, fun cs => ?_⟩⟩
      · simp [callFunc, hf, hb, hname]
      · have hsz : args.size ≤ fn.ntmps := by have := hv.length; simp at this; omega
        let b : Frame := { fn := f, tmps := #[], todo := [], defers := [], mode := .run, kind := .normal, roundOf := none }
        have henter : Frame.enter C.P f args .normal = b.at { tmps := args ++ Array.replicate (fn.ntmps - args.size) undef, defers := [] } [.code c] := by simp [Frame.enter, Frame.at, hf, hb, b]
        obtain ⟨ch, a', w', todo, e1, e2, e3⟩ := h7 ι { tmps := args ++ Array.replicate (fn.ntmps - args.size) undef, defers := [] } w ⟨args_TnR h4 h5 hv hsz, trivial, hH⟩
          (fun ch w' => ∃ v, ch = [{ v := .iface T v, recovered := false }] ∧ Behind ι H w (.g pv) H' v w') (fun ι' w' args' hE hv' hH' => by
            obtain ⟨q1, q2⟩ := hp ι' w' args' hv' hH'
            refine ⟨q1, Calls.mono q2 ?_⟩
            rintro e w'' ⟨ch, rfl, v, rfl, ι'', hE', hH'', hx⟩
            exact ⟨_, rfl, v, rfl, ι'', hE.trans hE', hH'', hx⟩) b [] cs rfl
        rw [← henter] at e3
        exact ⟨.panicked ch, w', _, ⟨ch, rfl, e2⟩, e3, rfl, rfl, e1, fn, hf⟩
end Go.Proofs.YtmdciljpcnokcaaGreatDoor.Ex
