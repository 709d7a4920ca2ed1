/-
  A run of closed code by the kernel: a call that was run once, from objects that are told in full, is as what was seen then, wherever these objects stand again.
-/
import Derived.Test.YtmdciljpcnokcaaGreatDoorEzR
namespace Go.Proofs.YtmdciljpcnokcaaGreatDoor.Ex
/-- objects with their numbers -/
inductive Obs where
  | nil
  | cons (b : Nat) (o : Ob) (l : Obs)
def Obs.mem (b : Nat) (o : Ob) : Obs → Prop
  | .nil => False
  | .cons c p l => (b = c ∧ o = p) ∨ l.mem b o
/-- the first says all that the second says -/
noncomputable def leSc (a b : Sc) : Bool :=
  Bool.rec (eqSc a b) true (Sc.rec (fun _ _ => false) (fun _ _ => false) (fun _ _ => false) (fun _ => false) (fun _ _ _ _ _ => false) (fun o => Ot.rec false true false false false false (fun _ => false) (fun _ _ => false) (fun _ => false) (fun _ => false) false (fun _ => false) o) b)
theorem leSc_true [Sig] {a b : Sc} (h : leSc a b = true) : ∀ (ι : Inj) v, a.R ι v → b.R ι v := by
  intro ι v hv
  have hu : b = .oth .unk ∨ eqSc a b = true := by
    cases b with
    | oth o => cases o <;> first | exact .inl rfl | exact .inr h
    | _ => exact .inr h
  rcases hu with rfl | h
  · exact trivial
  · exact eqSc_true h ▸ hv
noncomputable def leL (a : List Sc) : List Sc → Bool :=
  List.rec (fun b => List.rec true (fun _ _ _ => false) b) (fun x _ ih b => List.rec false (fun y b _ => andK (leSc x y) (ih b)) b) a
theorem leL_true [Sig] : ∀ {a b : List Sc}, leL a b = true → a.length = b.length ∧ ∀ (i : Nat) (y : Sc), b[i]? = some y → ∃ x, a[i]? = some x ∧ ∀ (ι : Inj) v, CR ι x v → CR ι y v
  | [], [], _ => ⟨rfl, fun i y h => by simp at h⟩
  | [], _ :: _, h => by cases h
  | _ :: _, [], h => by cases h
  | x :: a, y :: b, h => by
    obtain ⟨h1, h2⟩ := andK_true (show andK (leSc x y) (leL a b) = true from h)
    obtain ⟨h3, h4⟩ := leL_true h2
    refine ⟨by simp [h3], fun i z hz => ?_⟩
    cases i with
    | zero =>
      simp at hz
      subst hz
      exact ⟨x, rfl, fun ι v hv => ⟨leSc_true h1 ι v hv.1, hv.2⟩⟩
    | succ i => simpa using h4 i z (by simpa using hz)
noncomputable def leOb (a b : Ob) : Bool :=
  Ob.rec (fun l fz et => Ob.rec (fun l' fz' et' => andK (leL l l') (andK (eqB fz fz') (eqON et et'))) false (fun _ => false) (fun _ => false) (fun _ => false) b)
    false (fun l => Ob.rec (fun _ _ _ => false) false (fun l' => eqL eqWd l l') (fun _ => false) (fun _ => false) b) (fun _ => false) (fun _ => false) a
theorem leOb_true [Sig] {a b : Ob} (h : leOb a b = true) : ∀ (ι : Inj) w k, a.R ι w k → b.R ι w k := by
  intro ι w k hR
  cases a with
  | dfr => cases h
  | loop => cases h
  | map => cases h
  | clo l =>
    cases b <;> first | (cases h; done) | skip
    rename_i l'
    have : l = l' := eqL_true (fun _ _ => eqWd_true) h
    exact this ▸ hR
  | cells l fz et =>
    cases b <;> first | (cases h; done) | skip
    rename_i l' fz' et'
    obtain ⟨h1, h2⟩ := andK_true (show andK (leL l l') (andK (eqB fz fz') (eqON et et')) = true from h)
    obtain ⟨h3, h4⟩ := andK_true h2
    obtain rfl := eqB_true h3
    obtain rfl := eqON_true h4
    obtain ⟨h5, h6⟩ := leL_true h1
    obtain ⟨x, c, e, f, g1, g2, g3, g4, g5, g6⟩ := hR
    refine ⟨x, c, e, f, g1, g2, g3, h5 ▸ g4, fun i y hy => ?_, g6⟩
    obtain ⟨z, hz, hle⟩ := h6 i y hy
    obtain ⟨v, g7, g8⟩ := g5 i z hz
    exact ⟨v, g7, hle ι v g8⟩
theorem leOb_ro [Sig] {a b : Ob} (h : leOb a b = true) : a.ro = b.ro := by
  cases a with
  | cells l fz et =>
    cases b <;> first | (cases h; done) | skip
    rename_i l' fz' et'
    obtain ⟨_, h2⟩ := andK_true (show andK (leL l l') (andK (eqB fz fz') (eqON et et')) = true from h)
    obtain ⟨h3, h4⟩ := andK_true h2
    obtain rfl := eqB_true h3
    obtain rfl := eqON_true h4
    cases fz <;> cases et <;> rfl
  | clo l => cases b <;> first | (cases h; done) | rfl
  | dfr => cases h
  | loop => cases h
  | map => cases h
/-- does a heap say all of this? -/
noncomputable def Obs.inK (t : Tr) (l : Obs) : Bool := Obs.rec true (fun b o _ ih => andK (t.getK b fun p => leOb p o) ih) l
theorem Obs.inK_true [Sig] {t : Tr} : ∀ {l : Obs}, l.inK t = true → ∀ b o, l.mem b o → ∃ p, t.get b = some p ∧ (∀ (ι : Inj) w k, p.R ι w k → o.R ι w k) ∧ p.ro = o.ro
  | .nil, _, _, _, hm => hm.elim
  | .cons c p l, h, b, o, hm => by
    obtain ⟨h1, h2⟩ := andK_true (show andK (t.getK c fun q => leOb q p) (l.inK t) = true from h)
    rcases hm with ⟨rfl, rfl⟩ | hm
    · obtain ⟨q, h3, h4⟩ := Tr.getK_true h1
      exact ⟨q, h3, leOb_true h4, leOb_ro h4⟩
    · exact Obs.inK_true h2 b o hm
/-- no object is only read -/
noncomputable def Obs.rwK (l : Obs) : Bool := Obs.rec true (fun _ o _ ih => Bool.rec ih false o.ro) l
theorem Obs.rwK_true : ∀ {l : Obs}, l.rwK = true → ∀ b o, l.mem b o → o.ro = false
  | .nil, _, _, _, hm => hm.elim
  | .cons c p l, h, b, o, hm => by
    have h : (Bool.rec l.rwK false p.ro : Bool) = true := h
    cases hp : p.ro with
    | true => rw [hp] at h; cases h
    | false =>
      rw [hp] at h
      rcases hm with ⟨rfl, rfl⟩ | hm
      · exact hp
      · exact Obs.rwK_true h b o hm
noncomputable def Obs.setK (l : Obs) : Tr → (Tr → Bool) → Bool := Obs.rec (fun t k => k t) (fun b o _ ih t k => t.setK (some o) b fun t' => ih t' k) l
theorem Obs.setK_true [Sig] : ∀ {l : Obs} {t : Tr} {k : Tr → Bool}, l.setK t k = true → ∃ t', k t' = true ∧ ∀ b o, t'.get b = some o → l.mem b o ∨ t.get b = some o
  | .nil, t, k, h => ⟨t, h, fun b o hb => .inr hb⟩
  | .cons c p l, t, k, h => by
    obtain ⟨t1, h1, h2, h3⟩ := Tr.setK_true (show t.setK (some p) c (fun t' => l.setK t' k) = true from h)
    obtain ⟨t2, h4, h5⟩ := Obs.setK_true h1
    refine ⟨t2, h4, fun b o hb => ?_⟩
    rcases h5 b o hb with h6 | h6
    · exact .inl (.inr h6)
    · by_cases hc : b = c
      · subst hc
        rw [h2] at h6
        exact .inl (.inl ⟨rfl, (Option.some.inj h6).symm⟩)
      · exact .inr ((h3 b hc).symm.trans h6)
noncomputable def Obs.clrK (l : Obs) : Tr → (Tr → Bool) → Bool := Obs.rec (fun t k => k t) (fun b _ _ ih t k => t.setK none b fun t' => ih t' k) l
theorem Obs.clrK_true [Sig] : ∀ {l : Obs} {t : Tr} {k : Tr → Bool}, l.clrK t k = true → ∃ t', k t' = true ∧ ∀ b o, t'.get b = some o → t.get b = some o ∧ ∀ p, ¬ l.mem b p
  | .nil, t, k, h => ⟨t, h, fun b o hb => ⟨hb, fun _ h => h⟩⟩
  | .cons c p l, t, k, h => by
    obtain ⟨t1, h1, h2, h3⟩ := Tr.setK_true (show t.setK none c (fun t' => l.clrK t' k) = true from h)
    obtain ⟨t2, h4, h5⟩ := Obs.clrK_true h1
    refine ⟨t2, h4, fun b o hb => ?_⟩
    obtain ⟨h6, h7⟩ := h5 b o hb
    by_cases hc : b = c
    · subst hc
      rw [h2] at h6
      cases h6
    · refine ⟨(h3 b hc).symm.trans h6, fun q hq => ?_⟩
      rcases hq with ⟨rfl, _⟩ | hq
      · exact hc rfl
      · exact h7 q hq
/-- no closure stands there -/
noncomputable def noClo (t : Tr) : Bool := Tr.rec true (fun v _ _ il ir => andK (Option.rec true (fun o => Ob.rec (fun _ _ _ => true) true (fun _ => false) (fun _ => true) (fun _ => true) o) v) (andK il ir)) t
theorem noClo_true [Sig] : ∀ {t : Tr}, noClo t = true → ∀ b l, t.get b ≠ some (.clo l)
  | .lf, _, b, l => by simp [Tr.get]
  | .nd v x y, h, b, l => by
    obtain ⟨h1, h2⟩ := andK_true (show andK _ (andK (noClo x) (noClo y)) = true from h)
    obtain ⟨h3, h4⟩ := andK_true h2
    unfold Tr.get
    split
    · intro e
      subst e
      cases h1
    · split
      · exact noClo_true h3 _ l
      · exact noClo_true h4 _ l

section
variable {P : Program}
/-- what a call does is what it does where more stands -/
theorem CallGoes.frame [Sig] {f : Nat} {vs : List Va} {Hi Ho H H' : Hp} {x y : Va} (h : CallGoes P vs Hi x Ho (.fn f)) (hn : H.nx = Hi.nx)
    (h1 : ∀ b o, Hi.t.get b = some o → ∃ p, H.t.get b = some p ∧ (∀ (ι : Inj) w k, p.R ι w k → o.R ι w k) ∧ p.ro = o.ro) (hro : ∀ b o, Hi.t.get b = some o → o.ro = false)
    (hm : Ho.nx ≤ H'.nx) (hxy : ∀ (ι : Inj) v, x.R ι v → y.R ι v)
    (h2 : ∀ b o, H'.t.get b = some o → (∃ p, Ho.t.get b = some p ∧ ∀ (ι : Inj) w k, p.R ι w k → o.R ι w k) ∨ (H.t.get b = some o ∧ Hi.t.get b = none ∧ ∀ l, o ≠ .clo l)) :
    CallGoes P vs H y H' (.fn f) := by
  intro ι w args hv hH
  have hHi : HR ι Hi w := by
    refine ⟨⟨fun b o hb => ?_, fun b hb => ?_, fun b b' o o' z z' hb hb' hz hz' e => ?_, hH.lt⟩, hH.amb, hH.far⟩
    · obtain ⟨p, h3, h4, _⟩ := h1 b o hb
      exact h4 ι w b (hH.obj b p h3)
    · obtain ⟨g1, g2, g3⟩ := hH.fresh b (hn ▸ hb)
      refine ⟨g1, g2, ?_⟩
      cases ho : Hi.t.get b with
      | none => rfl
      | some o =>
        obtain ⟨p, h3, _⟩ := h1 b o ho
        rw [h3] at g3
        cases g3
    · obtain ⟨p, h3, _⟩ := h1 b o hb
      obtain ⟨p', h3', _⟩ := h1 b' o' hb'
      exact hH.inj b b' p p' z z' h3 h3' hz hz' e
  obtain ⟨e1, e2⟩ := h ι w args hv hHi
  refine ⟨e1, e2.mono ?_⟩
  rintro e w' ⟨v, rfl, ι', hE, hR, hx⟩
  refine ⟨v, rfl, ι', ?_, ?_, hxy ι' v hx⟩
  · refine ⟨hE.loc, hE.clo, hn ▸ Nat.le_trans hE.nx hm, hE.size, fun k hk hf => hE.keep k hk fun b o z hb hz => ?_, fun b o z hb hz => ?_, fun b l z hb hz hlt => ?_, hE.same⟩
    · obtain ⟨p, h3, _⟩ := h1 b o hb
      exact hf b p z h3 hz
    · rcases h2 b o hb with ⟨p, h3, _⟩ | ⟨h3, _, h5⟩
      · rcases hE.live b p z h3 hz with h6 | ⟨b0, o0, x0, h6, h7, h8⟩
        · exact .inl h6
        · obtain ⟨p0, h9, _⟩ := h1 b0 o0 h6
          exact .inr ⟨b0, p0, x0, h9, h7, h8⟩
      · have hl : ∃ z', ι.loc b = some z' := by
          have := hH.obj b o h3
          cases o with
          | cells => obtain ⟨z', _, _, _, h6, _⟩ := this; exact ⟨z', h6⟩
          | dfr => obtain ⟨z', h6, _⟩ := this; exact ⟨z', h6⟩
          | clo l => exact (h5 l rfl).elim
          | loop => obtain ⟨z', _, h6, _⟩ := this; exact ⟨z', h6⟩
          | map => obtain ⟨z', _, _, h6, _⟩ := this; exact ⟨z', h6⟩
        obtain ⟨z', hz'⟩ := hl
        have := hE.loc b z' hz'
        rw [hz] at this
        cases this
        exact .inr ⟨b, o, z, h3, hz', rfl⟩
    · have hni : Hi.t.get b = none := by
        cases hg : Hi.t.get b with
        | none => rfl
        | some o =>
          obtain ⟨p, h3, _, h5⟩ := h1 b o hg
          rw [hb] at h3
          cases h3
          rw [hro b o hg] at h5
          cases h5
      have hne : ∀ b0 o0 x0, Hi.t.get b0 = some o0 → ι.loc b0 = some x0 → x0.block ≠ z.block := fun b0 o0 x0 h6 h7 h8 => by
        obtain ⟨p0, h9, _⟩ := h1 b0 o0 h6
        have := hH.inj b0 b p0 _ x0 z h9 hb h7 hz h8
        subst this
        rw [hni] at h6
        cases h6
      refine ⟨hE.keep z.block hlt hne, ?_⟩
      have only : ∀ b' o' x', H'.t.get b' = some o' → ι'.loc b' = some x' → x'.block = z.block → b' = b ∧ o' = .cells l true none := by
        intro b' o' x' hb' hx' he
        rcases h2 b' o' hb' with ⟨p, h3, _⟩ | ⟨h3, _, h5⟩
        · rcases hE.live b' p x' h3 hx' with h6 | ⟨b0, o0, x0, h6, h7, h8⟩
          · omega
          · exact absurd (h8.trans he) (hne b0 o0 x0 h6 h7)
        · have hl : ∃ z', ι.loc b' = some z' := by
            have := hH.obj b' o' h3
            cases o' with
            | cells => obtain ⟨z', _, _, _, h6, _⟩ := this; exact ⟨z', h6⟩
            | dfr => obtain ⟨z', h6, _⟩ := this; exact ⟨z', h6⟩
            | clo l => exact (h5 l rfl).elim
            | loop => obtain ⟨z', _, h6, _⟩ := this; exact ⟨z', h6⟩
            | map => obtain ⟨z', _, _, h6, _⟩ := this; exact ⟨z', h6⟩
          obtain ⟨z', hz'⟩ := hl
          have := hE.loc b' z' hz'
          rw [hx'] at this
          cases this
          have hbb := hH.inj b' b o' _ x' z h3 hb hz' hz he
          subst hbb
          rw [h3] at hb
          exact ⟨rfl, Option.some.inj hb⟩
      cases hg : H'.t.get b with
      | some o' => exact .inl (by rw [(only b o' z hg (hE.loc b z hz) rfl).2])
      | none =>
        refine .inr fun b' o' x' hb' hx' he => ?_
        rw [(only b' o' x' hb' hx' he).1, hg] at hb'
        cases hb'
  · have old : ∀ b o, H.t.get b = some o → Hi.t.get b = none → (∀ l, o ≠ .clo l) → ∃ z, ι.loc b = some z ∧ ι'.loc b = some z ∧ z.block < w.heap.size ∧ ∀ b0 o0 x0, Hi.t.get b0 = some o0 → ι.loc b0 = some x0 → x0.block ≠ z.block := by
      intro b o h3 h4 h5
      have hl : ∃ z', ι.loc b = some z' := by
        have := hH.obj b o h3
        cases o with
        | cells => obtain ⟨z', _, _, _, h6, _⟩ := this; exact ⟨z', h6⟩
        | dfr => obtain ⟨z', h6, _⟩ := this; exact ⟨z', h6⟩
        | clo l => exact (h5 l rfl).elim
        | loop => obtain ⟨z', _, h6, _⟩ := this; exact ⟨z', h6⟩
        | map => obtain ⟨z', _, _, h6, _⟩ := this; exact ⟨z', h6⟩
      obtain ⟨z, hz⟩ := hl
      refine ⟨z, hz, hE.loc b z hz, hH.lt b z hz, fun b0 o0 x0 h6 h7 h8 => ?_⟩
      obtain ⟨p0, h9, _⟩ := h1 b0 o0 h6
      have := hH.inj b0 b p0 o x0 z h9 h3 h7 hz h8
      subst this
      rw [h4] at h6
      cases h6
    refine ⟨⟨fun b o hb => ?_, fun b hb => ?_, fun b b' o o' z z' hb hb' hz hz' e => ?_, hR.lt⟩, hR.amb, hR.far⟩
    · rcases h2 b o hb with ⟨p, h3, h4⟩ | ⟨h3, h4, h5⟩
      · exact h4 ι' w' b (hR.obj b p h3)
      · obtain ⟨z, hz, hz', hlt, hne⟩ := old b o h3 h4 h5
        refine (hH.obj b o h3).mono hE.le fun u hu => ?_
        rw [hz] at hu
        cases hu
        exact hE.keep z.block hlt hne
    · obtain ⟨g1, g2, g3⟩ := hR.fresh b (Nat.le_trans hm hb)
      refine ⟨g1, g2, ?_⟩
      cases ho : H'.t.get b with
      | none => rfl
      | some o =>
        rcases h2 b o ho with ⟨p, h3, _⟩ | ⟨h3, _, _⟩
        · rw [h3] at g3; cases g3
        · have := (hH.fresh b (Nat.le_trans (hn ▸ hE.nx) (Nat.le_trans hm hb))).2.2
          rw [h3] at this
          cases this
    · have cross : ∀ (c c' : Nat) (p p' : Ob) (u u' : Loc), (∃ q, Ho.t.get c = some q ∧ ∀ (ι : Inj) w k, Ob.R ι w k q → Ob.R ι w k p) → (H.t.get c' = some p' ∧ Hi.t.get c' = none ∧ ∀ l, p' ≠ .clo l) → ι'.loc c = some u → ι'.loc c' = some u' → u.block ≠ u'.block := by
        rintro c c' p p' u u' ⟨q, h3, _⟩ ⟨h4, h5, h6⟩ hu hu' he
        obtain ⟨z0, hz0, hz1, hlt, hne⟩ := old c' p' h4 h5 h6
        rw [hu'] at hz1
        cases hz1
        rcases hE.live c q u h3 hu with h7 | ⟨b0, o0, x0, h7, h8, h9⟩
        · omega
        · exact hne b0 o0 x0 h7 h8 (h9.trans he)
      rcases h2 b o hb with hb1 | hb1 <;> rcases h2 b' o' hb' with hb2 | hb2
      · obtain ⟨p, h3, _⟩ := hb1
        obtain ⟨p', h3', _⟩ := hb2
        exact hR.inj b b' p p' z z' h3 h3' hz hz' e
      · exact (cross b b' o o' z z' hb1 hb2 hz hz' e).elim
      · exact (cross b' b o' o z' z hb2 hb1 hz' hz e.symm).elim
      · obtain ⟨y1, k1, k2, _, _⟩ := old b o hb1.1 hb1.2.1 hb1.2.2
        obtain ⟨y2, k3, k4, _, _⟩ := old b' o' hb2.1 hb2.2.1 hb2.2.2
        rw [hz] at k2
        cases k2
        rw [hz'] at k4
        cases k4
        exact hH.inj b b' o o' z z' hb1.1 hb2.1 k1 k3 e
end
/-- a call that was run: with what, from which objects, to what -/
structure Memo where
  vs : List Va
  nx : Nat
  pre : Obs
  v : Va
  nx' : Nat
  post : Obs
noncomputable def leWd (a b : Wd) : Bool := Wd.rec (fun x => Wd.rec (fun y => leSc x y) (fun _ => false) b) (fun l => Wd.rec (fun _ => false) (fun m => leL l m) b) a
noncomputable def leVa (a b : Va) : Bool :=
  Va.rec (fun x => Va.rec (fun y => leSc x y) (fun _ => false) (fun _ => false) b) (fun l => Va.rec (fun _ => false) (fun m => leL l m) (fun _ => false) b) (fun l => Va.rec (fun _ => false) (fun _ => false) (fun m => eqL eqWd l m) b) a
theorem leL_R [Sig] : ∀ {a b : List Sc}, leL a b = true → ∀ (ι : Inj) l, RL (CR ι) a l → RL (CR ι) b l
  | [], [], _, _, [], _ => trivial
  | [], _ :: _, h, _, _, _ => by cases h
  | _ :: _, [], h, _, _, _ => by cases h
  | _ :: _, _ :: _, _, _, [], h => h.elim
  | x :: a, y :: b, h, ι, v :: l, hR => by
    obtain ⟨h1, h2⟩ := andK_true (show andK (leSc x y) (leL a b) = true from h)
    exact ⟨⟨leSc_true h1 ι v hR.1.1, hR.1.2⟩, leL_R h2 ι l hR.2⟩
theorem leVa_true [Sig] {a b : Va} (h : leVa a b = true) : ∀ (ι : Inj) v, a.R ι v → b.R ι v := by
  intro ι v hv
  cases a <;> cases b <;> first | (cases h; done) | skip
  · exact leSc_true h ι v hv
  · obtain ⟨cs, h1, h2⟩ := hv
    exact ⟨cs, h1, leL_R h ι _ h2⟩
  · rename_i l m
    have : l = m := eqL_true (fun _ _ => eqWd_true) h
    exact this ▸ hv
noncomputable def leVs (a : List Va) : List Va → Bool :=
  List.rec (fun b => List.rec true (fun _ _ _ => false) b) (fun x _ ih b => List.rec false (fun y b _ => andK (leVa x y) (ih b)) b) a
theorem leVs_true [Sig] : ∀ {a b : List Va}, leVs a b = true → ∀ (ι : Inj) l, RL (Va.R ι) a l → RL (Va.R ι) b l
  | [], [], _, _, [], _ => trivial
  | [], [], _, _, _ :: _, h => h.elim
  | [], _ :: _, h, _, _, _ => by cases h
  | _ :: _, [], h, _, _, _ => by cases h
  | _ :: _, _ :: _, _, _, [], h => h.elim
  | x :: a, y :: b, h, ι, v :: l, hR => by
    obtain ⟨h1, h2⟩ := andK_true (show andK (leVa x y) (leVs a b) = true from h)
    exact ⟨leVa_true h1 ι v hR.1, leVs_true h2 ι l hR.2⟩
/-- the run -/
noncomputable def Memo.ran (M : Memo) (D : Dt) (f : Nat) : Bool :=
  andK M.pre.rwK <| M.pre.setK .lf fun t => D (.fn f) M.vs ⟨M.nx, t⟩ fun v H => andK (leVa v M.v) (hpK H fun nx t' => andK (Nat.ble nx M.nx') (M.post.inK t'))
noncomputable def Memo.fits (M : Memo) (vs : List Va) (H : Hp) : Bool := andK (leVs vs M.vs) (hpK H fun nx t => andK (Nat.beq nx M.nx) (M.pre.inK t))
noncomputable def Memo.go (M : Memo) (H : Hp) (k : Va → Hp → Bool) : Bool := M.pre.clrK H.t fun t1 => andK (noClo t1) (M.post.setK t1 fun t2 => k M.v ⟨M.nx', t2⟩)
noncomputable def irMem (M : Memo) (e : Ir) : Ir := ⟨fun vs H k => Bool.rec (e.run vs H k) (M.go H k) (M.fits vs H)⟩
noncomputable def irD (D : Dt) (f : Nat) : Ir := ⟨fun vs H k => D (.fn f) vs H k⟩
theorem irD_sound [Sig] {P : Program} {D : Dt} (hD : DS P D) (f : Nat) : IrSound P f (irD D f) := fun _ _ _ h => hD.go _ _ _ _ h
theorem irMem_sound [Sig] {P : Program} {D : Dt} (hD : DS P D) {f : Nat} {M : Memo} (hM : M.ran D f = true) {e : Ir} (he : IrSound P f e) : IrSound P f (irMem M e) := by
  intro vs H k h
  cases hf : M.fits vs H with
  | false =>
    have h : (Bool.rec (e.run vs H k) (M.go H k) (M.fits vs H) : Bool) = true := h
    rw [hf] at h
    exact he vs H k h
  | true =>
    have h : (Bool.rec (e.run vs H k) (M.go H k) (M.fits vs H) : Bool) = true := h
    rw [hf] at h
    obtain ⟨f1, f2⟩ := andK_true (show andK (leVs vs M.vs) (hpK H fun nx t => andK (Nat.beq nx M.nx) (M.pre.inK t)) = true from hf)
    obtain ⟨f3, f4⟩ := andK_true (show andK (Nat.beq H.nx M.nx) (M.pre.inK H.t) = true from f2)
    have f3 := beq_true f3
    obtain ⟨hrw, hM⟩ := andK_true (show andK M.pre.rwK (M.pre.setK .lf _) = true from hM)
    obtain ⟨t, r1, r2⟩ := Obs.setK_true (show M.pre.setK .lf _ = true from hM)
    obtain ⟨x, Ho, r3, r4⟩ := hD.go _ _ _ _ r1
    obtain ⟨r5, r6⟩ := andK_true r3
    obtain ⟨r7, r8⟩ := andK_true (show andK (Nat.ble Ho.nx M.nx') (M.post.inK Ho.t) = true from r6)
    obtain ⟨t1, g1, g2⟩ := Obs.clrK_true (show M.pre.clrK H.t _ = true from h)
    obtain ⟨g3, g4⟩ := andK_true g1
    obtain ⟨t2, g5, g6⟩ := Obs.setK_true g4
    refine ⟨M.v, ⟨M.nx', t2⟩, g5, ?_⟩
    have hpre : ∀ b o, t.get b = some o → M.pre.mem b o := fun b o hb => by
      rcases r2 b o hb with h1 | h1
      · exact h1
      · cases h1
    have key : CallGoes P M.vs H M.v ⟨M.nx', t2⟩ (.fn f) := by
      refine CallGoes.frame r4 f3 (fun b o hb => ?_) (ble_true r7) (leVa_true r5) (fun b o hb => ?_) (hro := fun b o hb => Obs.rwK_true hrw b o (hpre b o hb))
      · exact Obs.inK_true f4 b o (hpre b o hb)
      · rcases g6 b o hb with h1 | h1
        · obtain ⟨p, q1, q2, _⟩ := Obs.inK_true r8 b o h1
          exact .inl ⟨p, q1, q2⟩
        · obtain ⟨h2, h3⟩ := g2 b o h1
          refine .inr ⟨h2, ?_, fun l e => noClo_true g3 b l (e ▸ h1)⟩
          cases ht : t.get b with
          | none => rfl
          | some p => exact (h3 p (hpre b p ht)).elim
    intro ι w args hv hH
    exact key ι w args (leVs_true f1 ι _ hv) hH
end Go.Proofs.YtmdciljpcnokcaaGreatDoor.Ex
