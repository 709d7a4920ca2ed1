/-
  A run of closed code by the kernel: regions in their order; cells loaded.
-/
import Derived.Test.YtmdciljpcnokcaaGreatDoorEzA
namespace Go.Proofs.YtmdciljpcnokcaaGreatDoor.Ex

noncomputable def evalL (gs : List Gt) (tm : Tn) : (List Va → Bool) → Bool := List.rec (fun k => k []) (fun g _ ih k => g.run tm fun v => ih fun vs => k (v :: vs)) gs
theorem evalL_true [Sig] {P : Program} {n : Nat} {tm : Tn} : ∀ {gs : List Gt} {os : List Operand} {k : List Va → Bool}, RL (GtSound P n) gs os → evalL gs tm k = true →
    ∃ vs, k vs = true ∧ ∀ ι (a : Act), TnR ι n tm a.tmps → RL (fun x op => x.R ι (a.eval op)) vs os
  | [], [], _, _, h => ⟨[], h, fun _ _ _ => trivial⟩
  | g :: gs, o :: os, k, ⟨h1, h2⟩, h => by
    obtain ⟨x, h3, h4⟩ := h1 tm _ h
    obtain ⟨vs, h5, h6⟩ := evalL_true h2 h3
    exact ⟨x :: vs, h5, fun ι a ht => ⟨h4 ι a ht, h6 ι a ht⟩⟩
  | [], _ :: _, _, h, _ => h.elim
  | _ :: _, [], _, h, _ => h.elim

/-- a slot is set -/
noncomputable def putC (n : Nat) (dst : Option Nat) (v : Va) (fr : Fr) (k : Fr → Bool) : Bool :=
  Option.rec (k fr) (fun d => andK (Nat.blt d n) (fr.tm.setK v d fun tm => k ⟨tm, fr.ds, fr.rd⟩)) dst
theorem putC_true [Sig] {n : Nat} {dst : Option Nat} {v : Va} {fr : Fr} {k : Fr → Bool} (h : putC n dst v fr k = true) :
    ∃ fr', k fr' = true ∧ fr'.ds = fr.ds ∧ fr'.rd = fr.rd ∧ (∀ d, dst = some d → fr'.tm.get d = v ∧ ∀ m, m ≠ d → fr'.tm.get m = fr.tm.get m) ∧ (dst = none → fr' = fr) ∧
      ∀ ι (a : Act) val, TnR ι n fr.tm a.tmps → v.R ι val → TnR ι n fr'.tm (a.put dst val).tmps := by
  cases dst with
  | none => exact ⟨fr, h, rfl, rfl, (fun d e => by cases e), (fun _ => rfl), fun ι a val ht _ => ht⟩
  | some d =>
    obtain ⟨h1, h2⟩ := andK_true (show andK (Nat.blt d n) (fr.tm.setK v d fun tm => k ⟨tm, fr.ds, fr.rd⟩) = true from h)
    have hd : d < n := blt_true h1
    obtain ⟨t', h3, h4, h5⟩ := Tn.setK_true h2
    refine ⟨⟨t', fr.ds, fr.rd⟩, h3, rfl, rfl, (fun d' e => by cases e; exact ⟨h4, h5⟩), (fun e => by cases e), fun ι a val ht hv => ⟨?_, fun m hm => ?_⟩⟩
    · simp [Act.put, ht.1]
    · have hsz := ht.1
      by_cases e : m = d
      · subst e
        rw [h4]
        simpa [Act.put, hsz, hm] using hv
      · rw [h5 m e]
        have : (a.put (some d) val).tmps.getD m undef = a.tmps.getD m undef := by simp [Act.put, Ne.symm e]
        rw [this]
        exact ht.2 m hm
/-- is an operation wanted? -/
structure Gk where
  run : Tn → (Bool → Bool) → Bool
def GkSound [Sig] (n : Nat) (ops : Array Oper) (g : Gk) (o : Oper) : Prop := ∀ tm k, g.run tm k = true → ∃ t, k t = true ∧ ∀ ι (a : Act), TnR ι n tm a.tmps → Region.wanted o (yielded ops a.tmps) = t
noncomputable def isWanted (want : Bool) (v : Va) (k : Bool → Bool) : Bool :=
  asS v fun x => Sc.rec (fun _ _ => false) (fun _ _ => false) (fun _ _ => false) (fun b => k (Bool.rec (Bool.not want) want b)) (fun _ _ _ _ _ => false)
    (fun o => Ot.rec (k false) false false false false false (fun _ => false) (fun _ _ => false) (fun _ => false) (fun _ => false) false (fun _ => false) o) x
noncomputable def gkOf (n : Nat) (ops : Array Oper) (g : Option (Nat × Bool)) : Gk :=
  match g with
  | none => ⟨fun _ k => k true⟩
  | some (j, want) =>
    match (ops[j]?).bind (·.dst) with
    | none => ⟨fun _ k => k false⟩
    | some d => ⟨fun tm k => andK (Nat.blt d n) (tm.getK d fun v => isWanted want v k)⟩
theorem gkOf_sound [Sig] (n : Nat) (ops : Array Oper) (o : Oper) : GkSound n ops (gkOf n ops o.guard) o := by
  intro tm k h
  unfold gkOf at h
  unfold Region.wanted
  cases hg : o.guard with
  | none =>
    rw [hg] at h
    exact ⟨true, h, fun _ _ _ => rfl⟩
  | some g =>
    obtain ⟨j, want⟩ := g
    rw [hg] at h
    simp only at h ⊢
    cases hj : (ops[j]?).bind (·.dst) with
    | none =>
      rw [hj] at h
      exact ⟨false, h, fun ι a ht => by simp [yielded, hj]⟩
    | some d =>
      rw [hj] at h
      obtain ⟨h1, h2⟩ := andK_true h
      have hd : d < n := blt_true h1
      have h3 := Tn.getK_true h2
      obtain ⟨x, h4, h5⟩ := asS_true h3
      have key : ∀ ι (a : Act), TnR ι n tm a.tmps → ∃ v, a.tmps[d]? = some v ∧ x.R ι v := fun ι a ht => by
        have := ht.2 d hd
        rw [h4] at this
        have hs : d < a.tmps.size := by rw [ht.1]; exact hd
        refine ⟨a.tmps[d], by simp [hs], ?_⟩
        have h' : Va.R ι (Va.s x) a.tmps[d] := by simpa [Array.getD_eq_getD_getElem?, hs] using this
        exact h'
      cases x with
      | bool b =>
        refine ⟨Bool.rec (Bool.not want) want b, h5, fun ι a ht => ?_⟩
        obtain ⟨v, e1, e2⟩ := key ι a ht
        have e2 : v = .bool b := e2
        subst e2
        simp only [yielded, hj, Option.bind_some, e1]
        cases b <;> cases want <;> rfl
      | oth ot =>
        cases ot with
        | und =>
          refine ⟨false, h5, fun ι a ht => ?_⟩
          obtain ⟨v, e1, e2⟩ := key ι a ht
          have e2 : v = undef := e2
          subst e2
          simp only [yielded, hj, Option.bind_some, e1, undef]
          rfl
        | _ => cases h5
      | _ => cases h5

section
variable (P : Program) (f n : Nat)
/-- one operation of a region -/
def OdSound [Sig] (ops : Array Oper) (o : Oper) (d : Od) : Prop := ∀ D fr H k, DS P D → d.run D fr H k = true → ∃ fr' H', k fr' H' = true ∧ fr'.rd = fr.rd ∧
  ∀ ι a w, Rel ι n fr H a w → ∀ (b : Frame) (cs : List Frame) (i : Nat) (rest : List Nat) (ks : List Item), ops[i]? = some o →
    ∃ a' w' ι', Ext ι H w ι' H' w' ∧ Rel ι' n fr' H' a' w' ∧ Steps P (lone (b.atR a (.inRegion ops (i :: rest) :: ks)) cs w) (lone (b.atR a' (.inRegion ops rest :: ks)) cs w')
end
section
variable {P : Program} {f n : Nat}
noncomputable def opC (g : Gk) (gs : List Gt) (c : Cr) (n : Nat) (dst : Option Nat) : Od :=
  ⟨fun D fr H k => g.run fr.tm fun t => Bool.rec (putC n dst (.s (.oth .und)) fr fun fr' => k fr' H) (evalL gs fr.tm fun vs => c.run D vs H fun x H' => putC n dst x fr fun fr' => k fr' H') t⟩
theorem opC_sound [Sig] {ops : Array Oper} {o : Oper} {g : Gk} {gs : List Gt} {c : Cr} (hg : GkSound n ops g o) (hgs : RL (GtSound P n) gs o.op.operands.toList) (hc : CrSound P c o) : OdSound P n ops o (opC g gs c n o.dst) := by
  intro D fr H k hD h
  obtain ⟨t, h1, ht⟩ := hg _ _ h
  cases t with
  | false =>
    obtain ⟨fr', h2, hds, hrd, _, _, hp⟩ := putC_true (show putC n o.dst (.s (.oth .und)) fr (fun fr' => k fr' H) = true from h1)
    refine ⟨fr', H, h2, hrd, fun ι a w hR b cs i rest ks ho => ?_⟩
    refine ⟨a.put o.dst undef, w, ι, Ext.refl _ _ _, ⟨hp ι a undef hR.tm rfl, ?_, hR.hr⟩, .one ?_⟩
    · rw [hds]
      have : (a.put o.dst undef).defers = a.defers := by cases o.dst <;> rfl
      rw [this]; exact hR.ds
    · have := stepR_op_skip (P := P) (b := b) (a := a) (k := ks) (cs := cs) (w := w) (ops := ops) (i := i) (rest := rest) (by rw [ho]; simp [ht ι a hR.tm])
      rw [ho] at this
      exact this
  | true =>
    obtain ⟨vs, h2, hvs⟩ := evalL_true hgs (show evalL gs fr.tm (fun vs => c.run D vs H fun x H' => putC n o.dst x fr fun fr' => k fr' H') = true from h1)
    obtain ⟨x, H', h3, hop⟩ := hc D vs H _ hD h2
    obtain ⟨fr', h4, hds, hrd, _, _, hp⟩ := putC_true h3
    refine ⟨fr', H', h4, hrd, fun ι a w hR b cs i rest ks ho => ?_⟩
    obtain ⟨v, w', ⟨ι', hE, hH, hv⟩, hs⟩ := hop ι w a.eval (hvs ι a hR.tm) hR.hr b a cs ops i rest ks ho (ht ι a hR.tm) rfl
    refine ⟨a.put o.dst v, w', ι', hE, ⟨hp ι' a v (hR.tm.mono hE.le) hv, ?_, hH⟩, hs⟩
    rw [hds]
    have : (a.put o.dst v).defers = a.defers := by cases o.dst <;> rfl
    rw [this]; exact hR.ds.mono hE.le
noncomputable def opsR (ods : List Od) (D : Dt) : Fr → Hp → (Fr → Hp → Bool) → Bool := List.rec (fun fr H k => k fr H) (fun d _ ih fr H k => d.run D fr H fun fr' H' => ih fr' H' k) ods
theorem opsR_true [Sig] {ops : Array Oper} {D : Dt} (hD : DS P D) : ∀ {ods : List Od} {l : List Oper} {fr : Fr} {H : Hp} {k : Fr → Hp → Bool}, RL (fun d o => OdSound P n ops o d) ods l → opsR ods D fr H k = true →
    ∃ fr' H', k fr' H' = true ∧ fr'.rd = fr.rd ∧ ∀ ι a w, Rel ι n fr H a w → ∀ (b : Frame) (cs : List Frame) (i : Nat) (ks : List Item), (∀ j, l[j]? = ops[i + j]?) →
      ∃ a' w' ι', Ext ι H w ι' H' w' ∧ Rel ι' n fr' H' a' w' ∧ Steps P (lone (b.atR a (.inRegion ops (List.range' i l.length) :: ks)) cs w) (lone (b.atR a' (.inRegion ops [] :: ks)) cs w')
  | [], [], fr, H, k, _, h => ⟨fr, H, h, rfl, fun ι a w hR b cs i ks _ => ⟨a, w, ι, Ext.refl _ _ _, hR, .refl _ _⟩⟩
  | d :: ods, o :: l, fr, H, k, ⟨h1, h2⟩, h => by
    obtain ⟨fr₁, H₁, h3, hrd, hg⟩ := h1 D fr H _ hD h
    obtain ⟨fr', H', h4, hrd', hg'⟩ := opsR_true hD h2 h3
    refine ⟨fr', H', h4, hrd'.trans hrd, fun ι a w hR b cs i ks hl => ?_⟩
    have h0 : ops[i]? = some o := by simpa using (hl 0).symm
    obtain ⟨a₁, w₁, ι₁, hE, hR₁, hs⟩ := hg ι a w hR b cs i (List.range' (i + 1) l.length) ks h0
    obtain ⟨a₂, w₂, ι₂, hE₂, hR₂, hs₂⟩ := hg' ι₁ a₁ w₁ hR₁ b cs (i + 1) ks (fun j => by have := hl (j + 1); simpa [Nat.add_assoc, Nat.add_comm 1 j] using this)
    exact ⟨a₂, w₂, ι₂, hE.trans hE₂, hR₂, by simpa [List.range'_succ] using Steps.trans hs hs₂⟩
  | [], _ :: _, _, _, _, h, _ => h.elim
  | _ :: _, [], _, _, _, h, _ => h.elim
noncomputable def regC (ods : List Od) : Cd := ⟨fun D kn _ _ fr H => opsR ods D fr H kn⟩
theorem regC_sound [Sig] {ods : List Od} {ops : Array Oper} {id : Nat} (h : RL (fun d o => OdSound P n ops o d) ods ops.toList) : CdSound P f n (regC ods) (.region id ops false) := by
  intro D kn kx kr fr H hD hr
  obtain ⟨fr', H', h1, hrd, hg⟩ := opsR_true hD h (show opsR ods D fr H kn = true from hr)
  refine ⟨.n, fr', H', h1, hrd, fun ι a w r _ hR b k cs _ _ => ?_⟩
  obtain ⟨a', w', ι', hE, hR', hs⟩ := hg ι a w hR b cs 0 k (by simp)
  refine ⟨a', w', ι', hE, hR', (Steps.one stepR_region).trans ?_⟩
  rw [List.range_eq_range', ← Array.length_toList]
  exact Steps.trans hs (.one stepR_region_end)

/-! ### Cells loaded -/
noncomputable def asCells (o : Ob) (k : List Sc → Bool → Option Nat → Bool) : Bool := Ob.rec (fun l fz et => k l fz et) false (fun _ => false) (fun _ => false) (fun _ => false) o
theorem asCells_true {o : Ob} {k : List Sc → Bool → Option Nat → Bool} (h : asCells o k = true) : ∃ l fz et, o = .cells l fz et ∧ k l fz et = true := by
  cases o with
  | cells l fz et => exact ⟨l, fz, et, rfl, h⟩
  | _ => cases h
noncomputable def loadK (ag : Bool) (sz b off : Nat) (H : Hp) (k : Va → Bool) : Bool :=
  H.t.getK b fun o => asCells o fun l _ _ => Bool.rec (getL l off fun x => k (.s x)) (dropL l off fun l' => takeL l' sz fun l'' => k (.g l'')) ag
def isAggB : TypeDesc → Bool
  | .struct _ => true
  | .array _ _ => true
  | _ => false
/-- of a type: is its value of many cells, and of how many? -/
def tyOf (P : Program) (t : TypeId) : Option (Bool × Nat) :=
  match P.underlying t, P.info? t with
  | some d, some i => some (isAggB d, i.size)
  | _, _ => none
theorem run_isAgg {t : TypeId} {ag : Bool} {sz : Nat} (h : tyOf P t = some (ag, sz)) (w : World) : (isAgg t).run P w = .ok ag w ∧ (sizeOf t).run P w = .ok sz w := by
  unfold tyOf at h
  cases h1 : P.underlying t with
  | none => simp [h1] at h
  | some d =>
    cases h2 : P.info? t with
    | none => simp [h1, h2] at h
    | some i =>
      simp only [h1, h2, Option.some.injEq, Prod.mk.injEq] at h
      obtain ⟨rfl, rfl⟩ := h
      constructor
      · simp only [isAgg, Sem.run_bind, run_underlying h1, Result.andThen_ok]
        cases d <;> rfl
      · simp [sizeOf, typeInfo, h2]
theorem loadK_true [Sig] {t : TypeId} {ag : Bool} {sz b off : Nat} {H : Hp} {k : Va → Bool} (ht : tyOf P t = some (ag, sz)) (h : loadK ag sz b off H k = true) :
    ∃ x, k x = true ∧ (∀ l, x ≠ .t l) ∧ ∀ ι w y, HR ι H w → ι.loc b = some y → ∃ v, (loadVar t ⟨y.block, y.base + off, none⟩).run P w = .ok v w ∧ x.R ι v := by
  obtain ⟨o, h1, h2⟩ := Tr.getK_true h
  obtain ⟨l, fz, et, rfl, h3⟩ := asCells_true h2
  cases ag with
  | false =>
    obtain ⟨x, h4, h5⟩ := getL_true (show getL l off (fun x => k (.s x)) = true from h3)
    refine ⟨.s x, h5, (fun _ e => by cases e), fun ι w y hH hy => ?_⟩
    obtain ⟨x', c, e, f, e1, e2, e3, e4, e5, e6⟩ := hH.obj b _ h1
    rw [hy] at e1
    cases e1
    obtain ⟨v, e7, e8⟩ := e5 off x h4
    refine ⟨v, ?_, e8.1⟩
    simp only [loadVar, Sem.run_bind, (run_isAgg ht w).1, Result.andThen_ok]
    simp [cell_at e2, e7]
  | true =>
    obtain ⟨h4, h5⟩ := dropL_true (show dropL l off (fun l' => takeL l' sz fun l'' => k (.g l'')) = true from h3)
    obtain ⟨h6, h7⟩ := takeL_true h5
    refine ⟨.g ((l.drop off).take sz), h7, (fun _ e => by cases e), fun ι w y hH hy => ?_⟩
    obtain ⟨x', c, e, f, e1, e2, e3, e4, e5, e6⟩ := hH.obj b _ h1
    rw [hy] at e1
    cases e1
    have hlen : ((l.drop off).take sz).length = sz := by simp at h6 ⊢; omega
    have hvs : ∀ j v, ((c.toList.drop (y.base + off)).take sz)[j]? = some v → c[y.base + off + j]? = some v := by
      intro j v hj
      rw [List.getElem?_take] at hj
      split at hj
      · simpa using hj
      · cases hj
    have hcl : ((c.toList.drop (y.base + off)).take sz).length = sz := by simp at h6 ⊢; omega
    have hrun := run_loadCells' (P := P) e2 ((c.toList.drop (y.base + off)).take sz) hvs
    rw [hcl] at hrun
    refine ⟨.agg ((c.toList.drop (y.base + off)).take sz).toArray, ?_, _, rfl, RL.of_get (by simp only [hcl, hlen]) fun i u v hu hv => ?_⟩
    · simp only [loadVar, Sem.run_bind, (run_isAgg ht w).1, (run_isAgg ht w).2, Result.andThen_ok, if_true, hrun]
      rfl
    · rw [List.getElem?_take] at hu
      split at hu
      · rw [List.getElem?_drop] at hu
        obtain ⟨v', e7, e8⟩ := e5 _ _ hu
        have := hvs i v hv
        rw [Nat.add_assoc] at this
        rw [this] at e7
        cases e7
        exact e8
      · cases hu
end
end Go.Proofs.YtmdciljpcnokcaaGreatDoor.Ex
/-
  A run of closed code by the kernel: functions, rounds of a range over a function, and calls of any depth.
-/
namespace Go.Proofs.YtmdciljpcnokcaaGreatDoor.Ex

/-! ### A function's results -/
noncomputable def toWd (v : Va) (k : Wd → Bool) : Bool := Va.rec (fun x => k (.s x)) (fun l => k (.g l)) (fun _ => false) v
theorem toWd_true [Sig] {v : Va} {k : Wd → Bool} (h : toWd v k = true) : ∃ x, k x = true ∧ ∀ ι u, v.R ι u → x.R ι u := by
  cases v with
  | s x => exact ⟨.s x, h, fun _ _ h => h⟩
  | g l => exact ⟨.g l, h, fun _ _ h => h⟩
  | t l => cases h
noncomputable def toWds (vs : List Va) : (List Wd → Bool) → Bool := List.rec (fun k => k []) (fun v _ ih k => toWd v fun x => ih fun xs => k (x :: xs)) vs
theorem toWds_true [Sig] : ∀ {vs : List Va} {k : List Wd → Bool}, toWds vs k = true → ∃ xs, k xs = true ∧ ∀ ι us, RL (Va.R ι) vs us → RL (Wd.R ι) xs us
  | [], _, h => ⟨[], h, fun _ us hu => by cases us <;> exact hu⟩
  | v :: vs, k, h => by
    obtain ⟨x, h1, h2⟩ := toWd_true (show toWd v (fun x => toWds vs fun xs => k (x :: xs)) = true from h)
    obtain ⟨xs, h3, h4⟩ := toWds_true h1
    refine ⟨x :: xs, h3, fun ι us hu => ?_⟩
    cases us with
    | nil => exact hu.elim
    | cons u us => exact ⟨h2 ι u hu.1, h4 ι us hu.2⟩
def ofWd : Wd → Va
  | .s x => .s x
  | .g l => .g l
theorem ofWd_R [Sig] {ι : Inj} {x : Wd} {v : Value} (h : x.R ι v) : (ofWd x).R ι v := by cases x <;> exact h
noncomputable def ofWdK (x : Wd) (k : Va → Bool) : Bool := Wd.rec (fun x => k (.s x)) (fun l => k (.g l)) x
theorem ofWdK_eq (x : Wd) (k : Va → Bool) : ofWdK x k = k (ofWd x) := by cases x <;> rfl
/-- a row of kept values, as slots have them -/
noncomputable def capK (l : List Wd) : (List Va → Bool) → Bool := List.rec (fun k => k []) (fun x _ ih k => ofWdK x fun v => ih fun r => k (v :: r)) l
theorem capK_eq [Sig] : ∀ (l : List Wd) (k : List Va → Bool), capK l k = k (l.map ofWd)
  | [], _ => rfl
  | x :: l, k => (ofWdK_eq x fun v => capK l fun r => k (v :: r)).trans (capK_eq l _)
noncomputable def appV (vs m : List Va) : (List Va → Bool) → Bool := List.rec (fun k => k m) (fun v _ ih k => ih fun r => k (v :: r)) vs
theorem appV_eq (m : List Va) : ∀ (vs : List Va) (k : List Va → Bool), appV vs m k = k (vs ++ m)
  | [], _ => rfl
  | v :: vs, k => appV_eq m vs fun r => k (v :: r)

/-- what a result variable has -/
def resM (tmps : Array Value) : ResultVar → Sem Value
  | .tmp t => pure (tmps.getD t undef)
  | .cell a t => do loadVar t (← asAddr (tmps.getD a undef))
noncomputable def resK (P : Program) (n : Nat) (rs : List ResultVar) (tm : Tn) (H : Hp) : (List Va → Bool) → Bool :=
  List.rec (fun k => k []) (fun r _ ih k => ResultVar.rec (fun t => andK (Nat.blt t n) (tm.getK t fun v => ih fun vs => k (v :: vs)))
    (fun t ty => andK (Nat.blt t n) (tm.getK t fun p => asPtr p fun b off => Option.rec false (fun as => Prod.rec (fun ag sz => loadK ag sz b off H fun v => ih fun vs => k (v :: vs)) as) (tyOf P ty))) r) rs
theorem getD_of [Sig] {ι : Inj} {n t : Nat} {tm : Tn} {tmps : Array Value} (ht : TnR ι n tm tmps) (hn : t < n) : (tm.get t).R ι (tmps.getD t undef) := ht.2 t hn
theorem resK_true [Sig] {P : Program} {n : Nat} {tm : Tn} {H : Hp} : ∀ {rs : List ResultVar} {k : List Va → Bool}, resK P n rs tm H k = true →
    ∃ vs, k vs = true ∧ ∀ ι w (tmps : Array Value), TnR ι n tm tmps → HR ι H w → ∃ us, (rs.mapM (resM tmps)).run P w = .ok us w ∧ RL (Va.R ι) vs us
  | [], k, h => ⟨[], h, fun ι w tmps _ _ => ⟨[], rfl, trivial⟩⟩
  | .tmp t :: rs, k, h => by
    obtain ⟨h1, h2⟩ := andK_true (show andK (Nat.blt t n) (tm.getK t fun v => resK P n rs tm H fun vs => k (v :: vs)) = true from h)
    have hd : t < n := blt_true h1
    have h3 := Tn.getK_true h2
    obtain ⟨vs, h4, h5⟩ := resK_true h3
    refine ⟨_ :: vs, h4, fun ι w tmps ht hH => ?_⟩
    obtain ⟨us, h6, h7⟩ := h5 ι w tmps ht hH
    refine ⟨tmps.getD t undef :: us, ?_, ht.2 t hd, h7⟩
    simp only [List.mapM_cons, resM, Sem.run_bind, Sem.run_pure, Result.andThen_ok, h6]
  | .cell t ty :: rs, k, h => by
    obtain ⟨h1, h2⟩ := andK_true (show andK (Nat.blt t n) (tm.getK t fun p => asPtr p fun b off => Option.rec false (fun as => Prod.rec (fun ag sz => loadK ag sz b off H fun v => resK P n rs tm H fun vs => k (v :: vs)) as) (tyOf P ty)) = true from h)
    have hd : t < n := blt_true h1
    have h3 := Tn.getK_true h2
    obtain ⟨b, off, e1, h4⟩ := asPtr_true h3
    cases hty : tyOf P ty with
    | none => rw [hty] at h4; cases h4
    | some as =>
      obtain ⟨ag, sz⟩ := as
      rw [hty] at h4
      obtain ⟨x, h5, _, h6⟩ := loadK_true hty (show loadK ag sz b off H (fun v => resK P n rs tm H fun vs => k (v :: vs)) = true from h4)
      obtain ⟨vs, h7, h8⟩ := resK_true h5
      refine ⟨x :: vs, h7, fun ι w tmps ht hH => ?_⟩
      obtain ⟨us, h9, h10⟩ := h8 ι w tmps ht hH
      have hp := ht.2 t hd
      rw [e1] at hp
      obtain ⟨y, hy, hv⟩ := hp
      obtain ⟨v, h11, h12⟩ := h6 ι w y hH hy
      refine ⟨v :: us, ?_, h12, h10⟩
      simp only [List.mapM_cons, resM, Sem.run_bind, hv, asAddr, Sem.run_pure, Result.andThen_ok, h11, h9]
/-- one result is that, others are a row of them -/
noncomputable def tupK (vs : List Va) (k : Va → Bool) : Bool :=
  List.rec (k (.t [])) (fun v l _ => List.rec (k v) (fun _ _ _ => toWds vs fun xs => k (.t xs)) l) vs
theorem tupK_true [Sig] {vs : List Va} {k : Va → Bool} (h : tupK vs k = true) : ∃ x, k x = true ∧ ∀ ι (us : List Value), RL (Va.R ι) vs us → x.R ι (if h : us.toArray.size = 1 then us.toArray[0] else .tuple us.toArray) := by
  match vs, h with
  | [], h =>
    refine ⟨.t [], h, fun ι us hu => ?_⟩
    cases us with
    | nil => exact ⟨#[], rfl, trivial⟩
    | cons => exact hu.elim
  | [v], h =>
    refine ⟨v, h, fun ι us hu => ?_⟩
    obtain ⟨u, rfl, hu'⟩ := RL1 hu
    simpa using hu'
  | v :: v' :: vs, h =>
    obtain ⟨xs, h1, h2⟩ := toWds_true (show toWds (v :: v' :: vs) (fun xs => k (.t xs)) = true from h)
    refine ⟨.t xs, h1, fun ι us hu => ?_⟩
    have := hu.length
    rw [dif_neg (by simp at this ⊢; omega)]
    exact ⟨us.toArray, rfl, h2 ι us hu⟩

/-! ### Marks among the deferred calls -/
noncomputable def asDfr (o : Ob) (k : Bool) : Bool := Ob.rec (fun _ _ _ => false) k (fun _ => false) (fun _ => false) (fun _ => false) o
theorem asDfr_true {o : Ob} {k : Bool} (h : asDfr o k = true) : o = .dfr ∧ k = true := by
  cases o with
  | dfr => exact ⟨rfl, h⟩
  | _ => cases h
noncomputable def hpK (H : Hp) (k : Nat → Tr → Bool) : Bool := Hp.rec (fun nx t => k nx t) H
theorem hpK_eq (H : Hp) (k : Nat → Tr → Bool) : hpK H k = k H.nx H.t := rfl
noncomputable def shutK (ds : List Nat) : Hp → (Hp → Bool) → Bool :=
  List.rec (fun H k => k H) (fun d _ ih H k => hpK H fun nx t => t.getK d fun o => asDfr o (t.setK none d fun t' => ih ⟨nx, t'⟩ k)) ds
theorem shutK_true [Sig] {P : Program} : ∀ {ds : List Nat} {H : Hp} {k : Hp → Bool}, shutK ds H k = true → ∃ H', k H' = true ∧ ∀ ι w l, DsR ι ds l → HR ι H w → ∀ (fr : Frame) cs, fr.mode = .returning → fr.defers = l →
    ∃ w', Ext ι H w ι H' w' ∧ HR ι H' w' ∧ Steps P (lone fr cs w) (lone { fr with defers := [] } cs w')
  | [], H, k, h => ⟨H, h, fun ι w l hl hH fr cs hm hd => by
    cases l with
    | nil => exact ⟨w, Ext.refl _ _ _, hH, by rw [← hd]; exact .refl _ _⟩
    | cons => exact hl.elim⟩
  | d :: ds, H, k, h => by
    have h : (H.t.getK d fun o => asDfr o (H.t.setK none d fun t' => shutK ds ⟨H.nx, t'⟩ k)) = true := h
    obtain ⟨o, h1, h2⟩ := Tr.getK_true h
    obtain ⟨rfl, h3⟩ := asDfr_true h2
    obtain ⟨t', h4, h5, h6⟩ := Tr.setK_true h3
    obtain ⟨H', h7, h8⟩ := shutK_true h4
    refine ⟨H', h7, fun ι w l hl hH fr cs hm hd => ?_⟩
    cases l with
    | nil => exact hl.elim
    | cons d0 l =>
      obtain ⟨⟨x, hx, rfl⟩, hl⟩ := hl
      obtain ⟨x', hx', hw⟩ := hH.obj d _ h1
      rw [hx] at hx'
      cases hx'
      obtain ⟨hH', hE⟩ := hH.put h1 hx h5 h6 (.deferred none) (fun o' e => by cases e)
      have hs := step_collected (P := P) (cs := cs) (w := w) (by rw [hm]; simp) hd rfl (run_takeDeferred hw)
      obtain ⟨w', hE', hH'', hs'⟩ := h8 ι _ l hl hH' { fr with defers := [] ++ l } cs hm rfl
      exact ⟨w', hE.trans hE', hH'', (Steps.one hs).trans hs'⟩

/-! ### A frame begins -/
noncomputable def fullT (d : Nat) : Tn := Nat.rec (.lf (.s (.oth .und))) (fun _ t => .nd t t) d
theorem fullT_get : ∀ (d t : Nat), (fullT d).get t = .s (.oth .und) ∨ (fullT d).get t = .s (.oth .unk)
  | 0, t => by
    change (Tn.lf (.s (.oth .und))).get t = _ ∨ (Tn.lf (.s (.oth .und))).get t = _
    unfold Tn.get
    split
    · exact .inl rfl
    · exact .inr rfl
  | d + 1, t => by
    change (Tn.nd (fullT d) (fullT d)).get t = _ ∨ (Tn.nd (fullT d) (fullT d)).get t = _
    unfold Tn.get
    split <;> exact fullT_get d _
noncomputable def argsT (vs : List Va) : Nat → Tn → (Tn → Bool) → Bool := List.rec (fun _ tm k => k tm) (fun v _ ih i tm k => tm.setK v i fun tm' => ih (Nat.succ i) tm' k) vs
theorem argsT_true [Sig] : ∀ {vs : List Va} {i : Nat} {tm : Tn} {k : Tn → Bool}, argsT vs i tm k = true → ∃ tm', k tm' = true ∧ (∀ j v, vs[j]? = some v → tm'.get (i + j) = v) ∧ ∀ j, (j < i ∨ i + vs.length ≤ j) → tm'.get j = tm.get j
  | [], i, tm, k, h => ⟨tm, h, fun j v e => by simp at e, fun _ _ => rfl⟩
  | v :: vs, i, tm, k, h => by
    obtain ⟨t', h1, h2, h3⟩ := Tn.setK_true (show tm.setK v i (fun tm' => argsT vs (Nat.succ i) tm' k) = true from h)
    obtain ⟨tm', h4, h5, h6⟩ := argsT_true h1
    refine ⟨tm', h4, fun j u e => ?_, fun j hj => ?_⟩
    · cases j with
      | zero =>
        simp at e
        subst e
        rw [h6 _ (by omega)]
        exact h2
      | succ j =>
        have := h5 j u (by simpa using e)
        rw [← this]
        congr 1
        omega
    · simp only [List.length_cons] at hj
      rw [h6 j (by omega)]
      exact h3 j (by omega)
theorem args_TnR [Sig] {ι : Inj} {vs : List Va} {args : Array Value} {d n : Nat} {tm : Tn} (h1 : ∀ j v, vs[j]? = some v → tm.get (0 + j) = v) (h2 : ∀ j, (j < 0 ∨ 0 + vs.length ≤ j) → tm.get j = (fullT d).get j) (hv : RL (Va.R ι) vs args.toList) (hn : args.size ≤ n) :
    TnR ι n tm (args ++ Array.replicate (n - args.size) undef) := by
  have hl : vs.length = args.size := by simpa using hv.length
  refine ⟨by simp; omega, fun t ht => ?_⟩
  rcases Nat.lt_or_ge t args.size with h | h
  · have e : vs[t]? = some vs[t] := List.getElem?_eq_getElem (by omega)
    have := h1 t _ e
    rw [Nat.zero_add] at this
    rw [this]
    obtain ⟨u, hu, hr⟩ := hv.get t _ e
    have hu : args[t]? = some u := by simpa using hu
    obtain ⟨_, hu'⟩ := Array.getElem?_eq_some_iff.1 hu
    have : (args ++ Array.replicate (n - args.size) undef).getD t undef = u := by simp [Array.getD_eq_getD_getElem?, Array.getElem?_append, h, hu']
    rw [this]
    exact hr
  · rw [h2 t (by omega)]
    have : (args ++ Array.replicate (n - args.size) undef).getD t undef = undef := by
      rw [Array.getD_eq_getD_getElem?, Array.getElem?_append, if_neg (by omega)]
      simp only [Array.getElem?_replicate]
      split <;> rfl
    rw [this]
    rcases fullT_get d t with e | e
    · rw [e]; exact rfl
    · rw [e]; exact trivial
end Go.Proofs.YtmdciljpcnokcaaGreatDoor.Ex
/-
  A run of closed code by the kernel: whole functions, rounds, and calls of any depth.
-/
namespace Go.Proofs.YtmdciljpcnokcaaGreatDoor.Ex

structure Cmp where
  P : Program
  cr : Oper → Cr
  gt : Nat → Operand → Gt
  dr : Nat → Array Oper → Cd
structure CmpOk [Sig] (C : Cmp) : Prop where
  cr : ∀ o, CrSound C.P (C.cr o) o
  gt : ∀ n o, GtSound C.P n (C.gt n o) o
  dr : ∀ f n id ops, CdSound C.P f n (C.dr n ops) (.region id ops true)

noncomputable def compO (C : Cmp) (n : Nat) (ops : Array Oper) (o : Oper) : Od := opC (gkOf n ops o.guard) (o.op.operands.toList.map (C.gt n)) (C.cr o) n o.dst

/-! ### A range over a function -/
/-- a function's value: which one, and what it holds -/
noncomputable def fnOf (H : Hp) (v : Va) (k : Nat → List Va → Bool) : Bool :=
  asS v fun x => Sc.rec (fun _ _ => false) (fun _ _ => false) (fun _ _ => false) (fun _ => false) (fun _ _ _ _ _ => false)
    (fun o => Ot.rec false false false false false false (fun f => k f []) (fun f c => H.t.getK c fun ob => Ob.rec (fun _ _ _ => false) false (fun l => capK l fun vs => k f vs) (fun _ => false) (fun _ => false) ob) (fun _ => false) (fun _ => false) false (fun _ => false) o) x
theorem fnOf_true [Sig] {H : Hp} {v : Va} {k : Nat → List Va → Bool} (h : fnOf H v k = true) :
    ∃ f vs, k f vs = true ∧ ∀ ι w u, HR ι H w → v.R ι u → ∃ cap, u = .func (.func f) #[] cap ∧ RL (Va.R ι) vs cap.toList := by
  obtain ⟨x, rfl, h1⟩ := asS_true h
  cases x with
  | oth o =>
    cases o with
    | fn0 f => exact ⟨f, [], h1, fun ι w u _ hu => ⟨#[], hu, trivial⟩⟩
    | fn f c =>
      have h1 : (H.t.getK c fun ob => Ob.rec (fun _ _ _ => false) false (fun l => capK l fun vs => k f vs) (fun _ => false) (fun _ => false) ob) = true := h1
      obtain ⟨ob, h2, h3⟩ := Tr.getK_true h1
      cases ob with
      | clo l =>
        have h3 : capK l (fun vs => k f vs) = true := h3
        rw [capK_eq] at h3
        refine ⟨f, _, h3, fun ι w u hH hu => ?_⟩
        obtain ⟨cap, e1, e2⟩ := hu
        obtain ⟨cap', e3, e4⟩ := hH.obj c _ h2
        rw [e1] at e3
        cases e3
        refine ⟨cap, e2, ?_⟩
        have hl := e4.length
        refine RL.of_get (by simpa using hl) fun i x y hx hy => ?_
        rw [List.getElem?_map] at hx
        cases hli : l[i]? with
        | none => rw [hli] at hx; cases hx
        | some z =>
          rw [hli] at hx
          cases hx
          obtain ⟨y', e5, e6⟩ := e4.get i z hli
          rw [hy] at e5
          cases e5
          exact ofWd_R e6
      | _ => cases h3
    | _ => cases h1
  | _ => cases h1
noncomputable def asLoop (o : Ob) (k : LoopD → Bool) : Bool := Ob.rec (fun _ _ _ => false) false (fun _ => false) (fun d => k d) (fun _ => false) o
theorem asLoop_true {o : Ob} {k : LoopD → Bool} (h : asLoop o k = true) : ∃ d, o = .loop d ∧ k d = true := by
  cases o with
  | loop d => exact ⟨d, rfl, h⟩
  | _ => cases h
noncomputable def isSt (s : LSt) (a b c : Bool) : Bool := LSt.rec a b c s
noncomputable def frK (fr : Fr) (k : Tn → List Nat → Option Nat → Bool) : Bool := Fr.rec (fun tm ds rd => k tm ds rd) fr
noncomputable def rangeC (f n : Nat) (g : Gt) (ps : List Nat) (asg body : Code) : Cd :=
  ⟨fun D kn kx kr fr H => frK fr fun tm ds rd => Option.rec (g.run tm fun v => fnOf H v fun gf cap => hpK H fun nx t =>
    t.setK (some .dfr) nx fun t1 => t1.setK (some (.loop ⟨.ready, .none, f, n, tm, ps, asg, body, nx⟩)) (Nat.succ nx) fun t2 =>
      D (.fn gf) (.s (.oth (.yld (Nat.succ nx))) :: cap) ⟨Nat.succ (Nat.succ nx), t2⟩ fun _ H3 => hpK H3 fun nx3 t3 => t3.getK (Nat.succ nx) fun o => asLoop o fun d =>
        isSt d.st (t3.setK none (Nat.succ nx) fun t4 => Jmp.rec (kn ⟨tm, nx :: ds, none⟩ ⟨nx3, t4⟩) (kr ⟨tm, nx :: ds, none⟩ ⟨nx3, t4⟩) (fun i => kx i ⟨tm, nx :: ds, none⟩ ⟨nx3, t4⟩) d.pend) false
          (t3.setK none (Nat.succ nx) fun t4 => Jmp.rec (kn ⟨tm, nx :: ds, none⟩ ⟨nx3, t4⟩) (kr ⟨tm, nx :: ds, none⟩ ⟨nx3, t4⟩) (fun i => kx i ⟨tm, nx :: ds, none⟩ ⟨nx3, t4⟩) d.pend)) (fun _ => false) rd⟩
theorem rangeC_sound [Sig] {P : Program} {f n : Nat} {g : Gt} {o : Operand} {ps : Array Tmp} {asg body : Code} (hg : GtSound P n g o) : CdSound P f n (rangeC f n g ps.toList asg body) (.rangeFunc o ps asg body) := by
  intro D kn kx kr fr H hD h
  obtain ⟨tm, ds, rd⟩ := fr
  cases rd with
  | some l => cases h
  | none =>
    have h : (g.run tm fun v => fnOf H v fun gf cap => H.t.setK (some .dfr) H.nx fun t1 => t1.setK (some (.loop ⟨.ready, .none, f, n, tm, ps.toList, asg, body, H.nx⟩)) (H.nx + 1) fun t2 =>
      D (.fn gf) (.s (.oth (.yld (H.nx + 1))) :: cap) ⟨H.nx + 1 + 1, t2⟩ fun _ H3 => H3.t.getK (H.nx + 1) fun o => asLoop o fun d =>
        isSt d.st (H3.t.setK none (H.nx + 1) fun t4 => Jmp.rec (kn ⟨tm, H.nx :: ds, none⟩ ⟨H3.nx, t4⟩) (kr ⟨tm, H.nx :: ds, none⟩ ⟨H3.nx, t4⟩) (fun i => kx i ⟨tm, H.nx :: ds, none⟩ ⟨H3.nx, t4⟩) d.pend) false
          (H3.t.setK none (H.nx + 1) fun t4 => Jmp.rec (kn ⟨tm, H.nx :: ds, none⟩ ⟨H3.nx, t4⟩) (kr ⟨tm, H.nx :: ds, none⟩ ⟨H3.nx, t4⟩) (fun i => kx i ⟨tm, H.nx :: ds, none⟩ ⟨H3.nx, t4⟩) d.pend)) = true := h
    obtain ⟨v, h1, hv⟩ := hg _ _ h
    obtain ⟨gf, cap, h2, hcap⟩ := fnOf_true h1
    obtain ⟨t1, h3, h3a, h3b⟩ := Tr.setK_true h2
    obtain ⟨t2, h4, h4a, h4b⟩ := Tr.setK_true h3
    obtain ⟨x, H3, h5, hcall⟩ := hD.go _ _ _ _ h4
    obtain ⟨ob, h6, h7⟩ := Tr.getK_true h5
    obtain ⟨d, rfl, h8⟩ := asLoop_true h7
    obtain ⟨hst, h9⟩ : d.st ≠ .busy ∧ (H3.t.setK none (H.nx + 1) fun t4 => Jmp.rec (kn ⟨tm, H.nx :: ds, none⟩ ⟨H3.nx, t4⟩) (kr ⟨tm, H.nx :: ds, none⟩ ⟨H3.nx, t4⟩) (fun i => kx i ⟨tm, H.nx :: ds, none⟩ ⟨H3.nx, t4⟩) d.pend) = true := by
      cases hs : d.st with
      | ready => rw [hs] at h8; exact ⟨by simp, h8⟩
      | busy => rw [hs] at h8; cases h8
      | done => rw [hs] at h8; exact ⟨by simp, h8⟩
    obtain ⟨t4, h10, h10a, h10b⟩ := Tr.setK_true h9
    -- the jump that is pending
    obtain ⟨e, he, hjmp⟩ : ∃ e, contOk kn kx kr ⟨tm, H.nx :: ds, none⟩ ⟨H3.nx, t4⟩ e = true ∧
        ((e = .n ∧ d.pend = .none) ∨ (e = .r ∧ d.pend = .ret) ∨ ∃ i, e = .x i ∧ d.pend = .exit i) := by
      cases hp : d.pend with
      | none => rw [hp] at h10; exact ⟨.n, h10, .inl ⟨rfl, rfl⟩⟩
      | ret => rw [hp] at h10; exact ⟨.r, h10, .inr (.inl ⟨rfl, rfl⟩)⟩
      | exit i => rw [hp] at h10; exact ⟨.x i, h10, .inr (.inr ⟨i, rfl, rfl⟩)⟩
    refine ⟨e, ⟨tm, H.nx :: ds, none⟩, ⟨H3.nx, t4⟩, he, rfl, fun ι a w r hr hR b k cs hb hf => ?_⟩
    have hr : r = none := hr
    subst hr
    subst hf
    obtain ⟨capv, hfv, hcapv⟩ := hcap ι w (a.eval o) hR.hr (hv ι a hR.tm)
    -- the two blocks
    obtain ⟨hH1, hE1⟩ := hR.hr.alloc (.deferred (some [])) 0 h3a h3b (show Ob.R _ _ _ .dfr from ⟨_, Inj.more_same, World.alloc_heap_new _ _⟩)
    let rec0 : Loop := { state := .ready, pending := none, fn := b.fn, tmps := a.tmps, params := ps, assign := asg, body := body, defers := w.heap.size }
    have hrec : LoopR ((ι.more H.nx ⟨w.heap.size, 0, 0⟩).more (H.nx + 1) ⟨w.heap.size + 1, 0, 0⟩) ⟨.ready, .none, b.fn, n, tm, ps.toList, asg, body, H.nx⟩ rec0 := by
      refine ⟨rfl, rfl, rfl, (hR.tm.mono hE1.le).mono (Inj.le_more ?_), by simp [rec0], rfl, rfl, ⟨w.heap.size, 0, 0⟩, ?_, rfl⟩
      · exact (hH1.fresh _ (Nat.le_refl _)).1
      · rw [Inj.more_other (show H.nx ≠ H.nx + 1 by omega)]; exact Inj.more_same
    have hsz1 : (w.alloc (.deferred (some []))).heap.size = w.heap.size + 1 := World.size_alloc ..
    obtain ⟨hH2, hE2⟩ := hH1.alloc (.loop rec0) 0 (H := ⟨H.nx + 1, t1⟩) h4a h4b (show Ob.R _ _ _ (.loop _) from ⟨_, rec0, Inj.more_same, World.alloc_heap_new _ _, by rw [hsz1]; exact hrec⟩)
    rw [hsz1] at hH2 hE2
    have hyl : ((ι.more H.nx ⟨w.heap.size, 0, 0⟩).more (H.nx + 1) ⟨w.heap.size + 1, 0, 0⟩).loc (H.nx + 1) = some ⟨w.heap.size + 1, 0, 0⟩ := Inj.more_same
    have hargs : RL (Va.R ((ι.more H.nx ⟨w.heap.size, 0, 0⟩).more (H.nx + 1) ⟨w.heap.size + 1, 0, 0⟩)) (.s (.oth (.yld (H.nx + 1))) :: cap) (#[Value.func (.yield (w.heap.size + 1)) #[] #[]] ++ capv).toList := by
      simp only [Array.toList_append, List.cons_append, List.nil_append]
      exact ⟨⟨_, hyl, rfl⟩, hcapv.mono fun _ _ h => h.mono (hE1.le.trans hE2.le)⟩
    obtain ⟨hcf, hcalls⟩ := hcall _ _ _ hargs hH2
    have henter := stepR_rangeFunc (P := P) (b := b) (a := a) (k := k) (cs := cs) (w := w) (g := o) (ps := ps) (assign := asg) (body := body) (l := w.heap.size + 1) (mark := [{ target := .collected w.heap.size, args := #[] }])
      (w₁ := (w.alloc (.deferred (some []))).alloc (.loop rec0)) (w₁' := (w.alloc (.deferred (some []))).alloc (.loop rec0)) (w₂ := (w.alloc (.deferred (some []))).alloc (.loop rec0))
      (d := { target := .fn (.func gf) capv, args := #[.func (.yield (w.heap.size + 1)) #[] #[]] }) (f := gf) (args := #[.func (.yield (w.heap.size + 1)) #[] #[]] ++ capv)
      (by rw [hb]; exact run_enterLoop_outer ..) (by
        have e0 : a.eval (.const (.func (.yield (w.heap.size + 1)) #[] #[])) = .func (.yield (w.heap.size + 1)) #[] #[] := rfl
        simp [resolve, hfv, Deferred.ofValue, e0]) (by simpa [invoke] using hcf)
    obtain ⟨en, w3, frl, ⟨vr, rfl, ι3, hE3, hH3, hx⟩, hs3, hfn3, hl3⟩ := hcalls (b.atR { a with defers := [{ target := .collected w.heap.size, args := #[] }] ++ a.defers } (.inRangeFunc (w.heap.size + 1) :: k) :: cs)
    have hleave := step_leave_returned (c := b.atR { a with defers := [{ target := .collected w.heap.size, args := #[] }] ++ a.defers } (.inRangeFunc (w.heap.size + 1) :: k)) (cs := cs) hl3
    rw [finish_atR_inRangeFunc] at hleave
    -- the record behind
    obtain ⟨y, rc, hy, hrc, hLR⟩ := hH3.obj _ _ h6
    have hy2 := hE3.loc _ _ hyl
    rw [hy] at hy2
    cases hy2
    have hnb : rc.state ≠ .busy := by
      rw [hLR.1]
      cases hs : d.st with
      | ready => simp [LSt.toGo]
      | busy => exact absurd hs hst
      | done => simp [LSt.toGo]
    have hend := stepR_endRangeFunc (b := b) (a := { a with defers := [{ target := .collected w.heap.size, args := #[] }] ++ a.defers }) (k := k) (cs := cs) (run_endLoop (P := P) hrc hnb)
    obtain ⟨hH4, hE4⟩ := hH3.put h6 hy h10a h10b (.loop { rc with state := .exhausted }) (fun o' e => by cases e)
    have hEall : Ext ι H w ι3 ⟨H3.nx, t4⟩ (w3.putObj (w.heap.size + 1) (.loop { rc with state := .exhausted })) := ((hE1.trans hE2).trans hE3).trans hE4
    simp only at hend hH4 hEall
    generalize w3.putObj (w.heap.size + 1) (.loop { rc with state := .exhausted }) = W4 at hend hH4 hEall
    refine ⟨{ a with defers := [{ target := .collected w.heap.size, args := #[] }] ++ a.defers }, _, ι3, hEall, ⟨hR.tm.mono hEall.le, ?_, hH4⟩, ?_⟩
    · exact ⟨⟨⟨w.heap.size, 0, 0⟩, hE3.loc _ _ (hE2.loc _ _ Inj.more_same), rfl⟩, hR.ds.mono hEall.le⟩
    · have hsteps := (Steps.one henter).trans (Steps.trans hs3 ((Steps.one hleave).trans (.one hend)))
      rw [hLR.2.1] at hsteps
      rcases hjmp with ⟨rfl, hp⟩ | ⟨rfl, hp⟩ | ⟨i, rfl, hp⟩ <;> rw [hp] at hsteps
      · exact hsteps
      · exact ⟨k, hsteps⟩
      · exact ⟨k, rfl, hsteps⟩
end Go.Proofs.YtmdciljpcnokcaaGreatDoor.Ex
/-
  A run of closed code by the kernel: rounds, functions, and calls of any depth.
-/
namespace Go.Proofs.YtmdciljpcnokcaaGreatDoor.Ex

noncomputable def comp (C : Cmp) (f n : Nat) : Code → Cd
  | .skip => skipC
  | .region _ ops draw => if draw then C.dr n ops else regC (ops.toList.map (compO C n ops))
  | .seq a b => seqC (comp C f n a) (comp C f n b)
  | .cond o a b => condC (C.gt n o) (comp C f n a) (comp C f n b)
  | .block id b => blockC id (comp C f n b)
  | .loop b => loopC (comp C f n b)
  | .rangeFunc g ps asg body => rangeC f n (C.gt n g) ps.toList asg body
  | .exit id => exitC id
  | .ret => retC
  | .label _ => badC
  | .goto _ => badC
  | .scope _ => badC
  | .refuse _ => badC
theorem RL_map {α β : Type} {R : β → α → Prop} {g : α → β} (h : ∀ x, R (g x) x) : ∀ l : List α, RL R (l.map g) l
  | [] => trivial
  | x :: l => ⟨h x, RL_map h l⟩
theorem comp_sound [Sig] {C : Cmp} (hC : CmpOk C) {f n : Nat} : ∀ c : Code, CdSound C.P f n (comp C f n c) c
  | .skip => skipC_sound
  | .region id ops draw => by
    unfold comp
    cases draw with
    | true => exact hC.dr f n id ops
    | false => exact regC_sound (RL_map (fun o => opC_sound (gkOf_sound n ops o) (RL_map (hC.gt n) _) (hC.cr o)) _)
  | .seq a b => seqC_sound (comp_sound hC a) (comp_sound hC b)
  | .cond o a b => condC_sound (hC.gt n o) (comp_sound hC a) (comp_sound hC b)
  | .block id b => blockC_sound (comp_sound hC b)
  | .loop b => loopC_sound (comp_sound hC b)
  | .rangeFunc g ps asg body => rangeC_sound (hC.gt n g)
  | .exit id => exitC_sound
  | .ret => retC_sound
  | .label _ => badC_sound _
  | .goto _ => badC_sound _
  | .scope _ => badC_sound _
  | .refuse _ => badC_sound _

/-! ### Functions -/
structure Fd where
  run : Dt → List Va → Hp → (Va → Hp → Bool) → Bool
noncomputable def finC (P : Program) (n : Nat) (rs : List ResultVar) (k : Va → Hp → Bool) (fr : Fr) (H : Hp) : Bool :=
  frK fr fun tm ds _ => shutK ds H fun H' => resK P n rs tm H' fun vs => tupK vs fun x => k x H'
noncomputable def lenK (vs : List Va) (n : Nat) : Bool := Nat.ble (List.rec 0 (fun _ _ m => Nat.succ m) vs) n
theorem lenK_true [Sig] {vs : List Va} {n : Nat} (h : lenK vs n = true) : vs.length ≤ n := by
  have e : ∀ vs : List Va, (List.rec 0 (fun _ _ m => Nat.succ m) vs : Nat) = vs.length := by
    intro vs
    induction vs with
    | nil => rfl
    | cons v vs ih => exact congrArg Nat.succ ih
  have := ble_true h
  rwa [e] at this
noncomputable def bodyC (C : Cmp) (n d : Nat) (rs : List ResultVar) (c : Cd) : Fd :=
  ⟨fun D vs H k => andK (lenK vs n) (argsT vs 0 (fullT d) fun tm => c.run D (finC C.P n rs k) (fun _ _ _ => false) (finC C.P n rs k) ⟨tm, [], none⟩ H)⟩
noncomputable def fdOf (C : Cmp) (f : Nat) : Fd :=
  match C.P.funcs[f]? with
  | none => ⟨fun _ _ _ _ => false⟩
  | some fn =>
    match fn.body with
    | none => ⟨fun _ _ _ _ => false⟩
    | some c => if fn.name = "runtime.NumGoroutine" then ⟨fun _ _ _ _ => false⟩ else bodyC C fn.ntmps (Nat.succ (Nat.log2 fn.ntmps)) fn.results.toList (comp C f fn.ntmps c)
theorem step_ret_or_end {P : Program} {b : Frame} (hb : b.roundOf = none) {a : Act} {cs : List Frame} {w : World} {m : Machine} {e : Out} (he : ∀ i, e ≠ .x i) (h : Arr P m b [] cs e a w) : ∃ todo, Steps P m (lone { b.atR a todo with mode := .returning } cs w) := by
  cases e with
  | n => exact ⟨_, Steps.trans h (.one (stepR_end hb))⟩
  | r => obtain ⟨k0, h⟩ := h; exact ⟨_, Steps.trans h (.one (stepR_ret hb))⟩
  | x i => exact absurd rfl (he i)
theorem finC_true [Sig] {C : Cmp} {n : Nat} {rs : List ResultVar} {k : Va → Hp → Bool} {fr : Fr} {H : Hp} (h : finC C.P n rs k fr H = true) :
    ∃ x H', k x H' = true ∧ ∀ ι a w, Rel ι n fr H a w → ∀ (fm : Frame) cs, fm.mode = .returning → fm.defers = a.defers → fm.tmps = a.tmps →
      ∃ w' u, Ext ι H w ι H' w' ∧ HR ι H' w' ∧ x.R ι u ∧ Steps C.P (lone fm cs w) (lone { fm with defers := [] } cs w') ∧ ∀ fn : Func, fn.results.toList = rs → (results fn fm.tmps).run C.P w' = .ok u w' := by
  obtain ⟨tm, ds, rd⟩ := fr
  obtain ⟨H', h1, h2⟩ := shutK_true (P := C.P) (show shutK ds H (fun H' => resK C.P n rs tm H' fun vs => tupK vs fun x => k x H') = true from h)
  obtain ⟨vs, h3, h4⟩ := resK_true h1
  obtain ⟨x, h5, h6⟩ := tupK_true h3
  refine ⟨x, H', h5, fun ι a w hR fm cs hm hd ht => ?_⟩
  obtain ⟨w', hE, hH, hs⟩ := h2 ι w a.defers hR.ds hR.hr fm cs hm hd
  obtain ⟨us, h7, h8⟩ := h4 ι w' a.tmps hR.tm hH
  refine ⟨w', _, hE, hH, h6 ι us h8, hs, fun fn hfn => ?_⟩
  rw [ht]
  have e : (fn.results.mapM (resM a.tmps)).run C.P w' = .ok us.toArray w' := by
    rw [Array.mapM_eq_mapM_toList, hfn]
    rw [map_eq_pure_bind, Sem.run_bind, h7]
    rfl
  have e2 : (results fn a.tmps) = (do let vs ← fn.results.mapM (resM a.tmps); pure (if h : vs.size = 1 then vs[0] else .tuple vs)) := by
    unfold results
    congr 1
  rw [e2, Sem.run_bind, e]
  rfl
theorem fdOf_sound [Sig] {C : Cmp} (hC : CmpOk C) {f : Nat} {D : Dt} (hD : DS C.P D) {vs : List Va} {H : Hp} {k : Va → Hp → Bool} (h : (fdOf C f).run D vs H k = true) : ∃ x H', k x H' = true ∧ CallGoes C.P vs H x H' (.fn f) := by
  unfold fdOf at h
  cases hf : C.P.funcs[f]? with
  | none => rw [hf] at h; cases h
  | some fn =>
    rw [hf] at h
    simp only at h
    cases hb : fn.body with
    | none => rw [hb] at h; cases h
    | some c =>
      rw [hb] at h
      simp only at h
      by_cases hname : fn.name = "runtime.NumGoroutine"
      · rw [if_pos hname] at h; cases h
      rw [if_neg hname] at h
      obtain ⟨h1, h2⟩ := andK_true (show andK (lenK vs fn.ntmps) (argsT vs 0 (fullT (Nat.succ (Nat.log2 fn.ntmps))) fun tm => (comp C f fn.ntmps c).run D (finC C.P fn.ntmps fn.results.toList k) (fun _ _ _ => false) (finC C.P fn.ntmps fn.results.toList k) ⟨tm, [], none⟩ H) = true from h)
      have hlen := lenK_true h1
      obtain ⟨tm, h3, h4, h5⟩ := argsT_true h2
      obtain ⟨e, fr', H₁, hk, hrd, hg⟩ := comp_sound hC c D _ _ _ _ H hD h3
      have hfin : (∀ i, e ≠ .x i) ∧ finC C.P fn.ntmps fn.results.toList k fr' H₁ = true := by
        cases e with
        | n => exact ⟨by simp, hk⟩
        | r => exact ⟨by simp, hk⟩
        | x i => cases hk
      obtain ⟨x, H', h6, h7⟩ := finC_true hfin.2
      refine ⟨x, H', h6, fun ι w args hv hH => ⟨?_, fun cs => ?_⟩⟩
      · simp [callFunc, hf, hb, hname]
      · have hsz : args.size ≤ fn.ntmps := by have := hv.length; simp at this; omega
        let b : Frame := { fn := f, tmps := #[], todo := [], defers := [], mode := .run, kind := .normal, roundOf := none }
        have henter : Frame.enter C.P f args .normal = b.atR { tmps := args ++ Array.replicate (fn.ntmps - args.size) undef, defers := [] } [.code c] := by simp [Frame.enter, Frame.atR, hf, hb, b]
        obtain ⟨a', w₁, ι₁, hE₁, hR₁, hA₁⟩ := hg ι { tmps := args ++ Array.replicate (fn.ntmps - args.size) undef, defers := [] } w none rfl ⟨args_TnR h4 h5 hv hsz, trivial, hH⟩ b [] cs rfl rfl
        rw [← henter] at hA₁
        obtain ⟨todo, hs₁⟩ := step_ret_or_end rfl hfin.1 hA₁
        obtain ⟨w', u, hE₂, hH₂, hx, hs₂, hres⟩ := h7 ι₁ a' w₁ hR₁ { b.atR a' todo with mode := .returning } cs rfl rfl rfl
        exact ⟨.returned u, w', _, ⟨u, rfl, ι₁, hE₁.trans hE₂, hH₂, hx⟩, Steps.trans hs₁ hs₂, rfl, rfl, rfl, rfl, fn, hf, hres fn rfl⟩

/-! ### Rounds -/
noncomputable def zipT (n : Nat) (ps : List Nat) : List Va → Tn → (Tn → Bool) → Bool :=
  List.rec (fun vs tm k => List.rec (k tm) (fun _ _ _ => false) vs) (fun p _ ih vs tm k => List.rec false (fun v vs _ => andK (Nat.blt p n) (tm.setK v p fun tm' => ih vs tm' k)) vs) ps
theorem zipT_true [Sig] {n : Nat} : ∀ {ps : List Nat} {vs : List Va} {tm : Tn} {k : Tn → Bool}, zipT n ps vs tm k = true → ps.length = vs.length ∧ ∃ tm', k tm' = true ∧
    ∀ ι (us : List Value) (tmps : Array Value), RL (Va.R ι) vs us → TnR ι n tm tmps → TnR ι n tm' ((ps.zip us).foldl (fun t (p, v) => t.setIfInBounds p v) tmps)
  | [], [], tm, k, h => ⟨rfl, tm, h, fun ι us tmps _ ht => ht⟩
  | [], _ :: _, tm, k, h => by cases h
  | _ :: _, [], tm, k, h => by cases h
  | p :: ps, v :: vs, tm, k, h => by
    obtain ⟨h1, h2⟩ := andK_true (show andK (Nat.blt p n) (tm.setK v p fun tm' => zipT n ps vs tm' k) = true from h)
    have hp := blt_true h1
    obtain ⟨t', h3, h4, h5⟩ := Tn.setK_true h2
    obtain ⟨hl, tm', h6, h7⟩ := zipT_true h3
    refine ⟨by simp [hl], tm', h6, fun ι us tmps hu ht => ?_⟩
    cases us with
    | nil => exact hu.elim
    | cons u us =>
      refine h7 ι us _ hu.2 ⟨by simpa using ht.1, fun t htn => ?_⟩
      have hsz := ht.1
      by_cases e : t = p
      · subst e
        rw [h4]
        simpa [hsz, htn] using hu.1
      · rw [h5 t e]
        have : (tmps.setIfInBounds p u).getD t undef = tmps.getD t undef := by simp [Ne.symm e]
        rw [this]
        exact ht.2 t htn
noncomputable def ldK (d : LoopD) (k : LSt → Nat → Nat → Tn → List Nat → Code → Code → Nat → Bool) : Bool := LoopD.rec (fun st _ fn n tm ps asg body dfr => k st fn n tm ps asg body dfr) d
noncomputable def endK (l : Nat) (k : Va → Hp → Bool) (j : Jmp) (st : LSt) (v : Bool) (fr : Fr) (H : Hp) : Bool :=
  frK fr fun _ ds _ => List.rec (hpK H fun nx t => t.getK l fun o => asLoop o fun d => ldK d fun _ fn n tm ps asg body dfr => t.setK (some (.loop ⟨st, j, fn, n, tm, ps, asg, body, dfr⟩)) l fun t' => k (.s (.bool v)) ⟨nx, t'⟩) (fun _ _ _ => false) ds
noncomputable def roundK (C : Cmp) (D : Dt) (l : Nat) (vs : List Va) (H : Hp) (k : Va → Hp → Bool) : Bool :=
  H.t.getK l fun o => asLoop o fun d => ldK d fun st fn n tm ps asg body _ => isSt st (zipT n ps vs tm fun tm' =>
    (comp C fn n asg).run D (fun fr H1 => frK fr fun _ ds _ => List.rec (hpK H1 fun nx t => t.getK l fun o => asLoop o fun d => ldK d fun st fn' n' tm ps asg' body' dfr => isSt st
      (t.setK (some (.loop ⟨.busy, d.pend, fn', n', tm, ps, asg', body', dfr⟩)) l fun t' =>
        (comp C fn n body).run D (endK l k .none .ready true) (fun i => endK l k (.exit i) .done false) (endK l k .ret .done false) fr ⟨nx, t'⟩) false false) (fun _ _ _ => false) ds)
      (fun _ _ _ => false) (fun _ _ => false) ⟨tm', [], some l⟩ H) false false
theorem endK_true [Sig] {l : Nat} {k : Va → Hp → Bool} {j : Jmp} {st : LSt} {v : Bool} {fr : Fr} {H : Hp} (h : endK l k j st v fr H = true) : ∃ H', k (.s (.bool v)) H' = true ∧ fr.ds = [] ∧
    ∀ ι w, HR ι H w → ∀ y, ι.loc l = some y → ∃ r, w.heap[y.block]? = some (.loop r) ∧
      (HR ι H' (w.putObj y.block (.loop { r with state := st.toGo, pending := j.toGo })) ∧ Ext ι H w ι H' (w.putObj y.block (.loop { r with state := st.toGo, pending := j.toGo }))) := by
  obtain ⟨tm0, ds, rd⟩ := fr
  cases ds with
  | cons => cases h
  | nil =>
    have h : (H.t.getK l fun o => asLoop o fun d => ldK d fun _ fn n tm ps asg body dfr => H.t.setK (some (.loop ⟨st, j, fn, n, tm, ps, asg, body, dfr⟩)) l fun t' => k (.s (.bool v)) ⟨H.nx, t'⟩) = true := h
    obtain ⟨o, h1, h2⟩ := Tr.getK_true h
    obtain ⟨d, rfl, h3⟩ := asLoop_true h2
    obtain ⟨t', h4, h5, h6⟩ := Tr.setK_true (show H.t.setK (some (.loop ⟨st, j, d.fn, d.n, d.tm, d.params, d.asg, d.body, d.dfr⟩)) l (fun t' => k (.s (.bool v)) ⟨H.nx, t'⟩) = true from h3)
    refine ⟨_, h4, rfl, fun ι w hH y hy => ?_⟩
    obtain ⟨y', r, e1, e2, e3⟩ := hH.obj l _ h1
    rw [hy] at e1
    cases e1
    refine ⟨r, e2, hH.put h1 hy h5 h6 _ fun o' e => ?_⟩
    cases e
    obtain ⟨g1, g2, g3, g4, g5, g6, g7, g8⟩ := e3
    exact ⟨y, _, hy, World.putObj_heap_same (hH.lt l y hy), rfl, rfl, g3, g4, g5, g6, g7, g8⟩
theorem roundK_sound [Sig] {C : Cmp} (hC : CmpOk C) {l : Nat} {D : Dt} (hD : DS C.P D) {vs : List Va} {H : Hp} {k : Va → Hp → Bool} (h : roundK C D l vs H k = true) : ∃ x H', k x H' = true ∧ CallGoes C.P vs H x H' (.yld l) := by
  unfold roundK at h
  obtain ⟨o, h1, h2⟩ := Tr.getK_true h
  obtain ⟨d, rfl, h3⟩ := asLoop_true h2
  obtain ⟨st, pend, fn, n, tm, ps, asg, body, dfr⟩ := d
  have h3 : isSt st (zipT n ps vs tm fun tm' => (comp C fn n asg).run D _ (fun _ _ _ => false) (fun _ _ => false) ⟨tm', [], some l⟩ H) false false = true := h3
  cases st with
  | busy => cases h3
  | done => cases h3
  | ready =>
    obtain ⟨hpl, tm', h4, hz⟩ := zipT_true (show zipT n ps vs tm _ = true from h3)
    obtain ⟨e, fr₁, H₁, hk, hrd, hg⟩ := comp_sound hC asg D _ _ _ _ H hD h4
    cases e with
    | x i => cases hk
    | r => cases hk
    | n =>
      obtain ⟨tm₁, ds₁, rd₁⟩ := fr₁
      cases ds₁ with
      | cons => cases hk
      | nil =>
        have hk : (H₁.t.getK l fun o => asLoop o fun d => ldK d fun st fn' n' tm ps asg' body' dfr => isSt st
          (H₁.t.setK (some (.loop ⟨.busy, d.pend, fn', n', tm, ps, asg', body', dfr⟩)) l fun t' =>
            (comp C fn n body).run D (endK l k .none .ready true) (fun i => endK l k (.exit i) .done false) (endK l k .ret .done false) ⟨tm₁, [], rd₁⟩ ⟨H₁.nx, t'⟩) false false) = true := hk
        obtain ⟨o₁, h5, h6⟩ := Tr.getK_true hk
        obtain ⟨d₁, rfl, h7⟩ := asLoop_true h6
        obtain ⟨st₁, pend₁, fn₁, n₁, tm₂, ps₁, asg₁, body₁, dfr₁⟩ := d₁
        cases st₁ with
        | busy => cases h7
        | done => cases h7
        | ready =>
          obtain ⟨t', h8, h8a, h8b⟩ := Tr.setK_true (show H₁.t.setK (some (.loop ⟨.busy, pend₁, fn₁, n₁, tm₂, ps₁, asg₁, body₁, dfr₁⟩)) l (fun t' =>
            (comp C fn n body).run D (endK l k .none .ready true) (fun i => endK l k (.exit i) .done false) (endK l k .ret .done false) ⟨tm₁, [], rd₁⟩ ⟨H₁.nx, t'⟩) = true from h7)
          obtain ⟨e₂, fr₂, H₂, hk₂, hrd₂, hg₂⟩ := comp_sound hC body D _ _ _ _ _ hD h8
          -- the end
          obtain ⟨j, st', v, hend, hj⟩ : ∃ j st' v, endK l k j st' v fr₂ H₂ = true ∧ ((e₂ = .n ∧ j = .none ∧ st' = .ready ∧ v = true) ∨ (e₂ = .r ∧ j = .ret ∧ st' = .done ∧ v = false) ∨ ∃ i, e₂ = .x i ∧ j = .exit i ∧ st' = .done ∧ v = false) := by
            cases e₂ with
            | n => exact ⟨_, _, _, hk₂, .inl ⟨rfl, rfl, rfl, rfl⟩⟩
            | r => exact ⟨_, _, _, hk₂, .inr (.inl ⟨rfl, rfl, rfl, rfl⟩)⟩
            | x i => exact ⟨_, _, _, hk₂, .inr (.inr ⟨i, rfl, rfl, rfl, rfl⟩)⟩
          obtain ⟨H₃, hk₃, hds₂, hfin⟩ := endK_true hend
          refine ⟨_, H₃, hk₃, fun ι w args hv hH y hy => ?_⟩
          obtain ⟨y', r, e1, e2, hLR⟩ := hH.obj l _ h1
          rw [hy] at e1
          cases e1
          obtain ⟨g1, g2, g3, g4, g5, g6, g7, g8⟩ := hLR
          have g6 : r.assign = asg := g6
          have g7 : r.body = body := g7
          have hsz : args.size = r.params.size := by rw [g5]; have := hv.length; simp at this; simp [hpl, this]
          refine ⟨_, _, _, _, run_yield e2 hsz, fun c cs => ?_⟩
          let b : Frame := { (default : Frame) with fn := r.fn, kind := .normal, roundOf := some y.block }
          have hb0 : ∀ T, Frame.round y.block r.fn T r.assign r.body .normal = b.atR { tmps := T, defers := [] } [.code r.assign, .beginRound, .code r.body] := fun T => by simp [Frame.round, Frame.atR, b]
          have hT : TnR ι n tm' ((r.params.zip args).foldl (fun tmps (t, a) => tmps.setIfInBounds t a) r.tmps) := by
            have := hz ι args.toList r.tmps hv g4
            rw [g5, ← Array.foldl_toList]
            simpa using this
          rw [hb0, g6, g7]
          generalize hTT : (r.params.zip args).foldl (fun tmps (t, a) => tmps.setIfInBounds t a) r.tmps = T at hT
          obtain ⟨a₁, w₁, ι₁, hE₁, hR₁, hA₁⟩ := hg ι { tmps := T, defers := [] } w (some y.block) ⟨y, hy, rfl⟩ ⟨hT, trivial, hH⟩ b [.beginRound, .code body] (c :: cs) rfl g3
          have hy₁ := hE₁.loc l y hy
          -- the round begins
          obtain ⟨y₁, r₁, f1, f2, f3⟩ := hR₁.hr.obj l _ h5
          rw [hy₁] at f1
          cases f1
          obtain ⟨q1, q2, q3, q4, q5, q6, q7, q8⟩ := f3
          have hbr := run_beginRound (P := C.P) f2 q1
          obtain ⟨hHb, hEb⟩ := hR₁.hr.put h5 hy₁ h8a h8b (.loop { r₁ with state := .busy }) (fun o' e => by
            cases e
            exact ⟨y, _, hy₁, World.putObj_heap_same (hR₁.hr.lt l y hy₁), rfl, q2, q3, q4, q5, q6, q7, q8⟩)
          have s1 := stepR_beginRound (P := C.P) (b := b) (a := a₁) (k := [.code body]) (cs := c :: cs) (w := w₁) rfl hbr
          obtain ⟨a₂, w₂, ι₂, hE₂, hR₂, hA₂⟩ := hg₂ ι₁ a₁ _ (some y.block) (by rw [hrd]; exact ⟨y, hy₁, rfl⟩) ⟨hR₁.tm, hR₁.ds, hHb⟩ b [] (c :: cs) rfl g3
          have hy₂ := hE₂.loc l y hy₁
          obtain ⟨r₂, m1, hH₃, hE₃⟩ := hfin ι₂ w₂ hR₂.hr y hy₂
          have hend' := fun jump => run_endRound (P := C.P) jump m1
          have hEall := ((hE₁.trans hEb).trans hE₂).trans hE₃
          have hpre := (Steps.trans hA₁ (Steps.one s1))
          rcases hj with ⟨rfl, rfl, rfl, rfl⟩ | ⟨rfl, rfl, rfl, rfl⟩ | ⟨i, rfl, rfl, rfl, rfl⟩
          · refine ⟨_, _, ⟨ι₂, hEall, hH₃, rfl⟩, Steps.trans hpre (Steps.trans hA₂ (.one (stepR_round_end rfl rfl ?_)))⟩
            exact hend' none
          · obtain ⟨k0, hA₂⟩ := hA₂
            refine ⟨_, _, ⟨ι₂, hEall, hH₃, rfl⟩, Steps.trans hpre (Steps.trans hA₂ (.one (stepR_round_ret rfl rfl ?_)))⟩
            exact hend' (some .ret)
          · obtain ⟨k0, hx0, hA₂⟩ := hA₂
            refine ⟨_, _, ⟨ι₂, hEall, hH₃, rfl⟩, Steps.trans hpre (Steps.trans hA₂ (.one (stepR_round_exit rfl rfl hx0 ?_)))⟩
            exact hend' (some (.exit i))

/-! ### Calls -/
/-- a function whose contract is known -/
structure Ir where
  run : List Va → Hp → (Va → Hp → Bool) → Bool
def IrSound [Sig] (P : Program) (f : Nat) (i : Ir) : Prop := ∀ vs H k, i.run vs H k = true → ∃ x H', k x H' = true ∧ CallGoes P vs H x H' (.fn f)
noncomputable def Dn (C : Cmp) (I : Nat → Option Ir) (m : Nat) : Dt :=
  Nat.rec (fun _ _ _ _ => false) (fun _ D tg vs H k => Tg.rec (fun f => Option.rec ((fdOf C f).run D vs H k) (fun i => i.run vs H k) (I f)) (fun l => roundK C D l vs H k) tg) m
def IrStill (i : Ir) : Prop := ∀ vs H k, i.run vs H k = i.run vs H fun x _ => k x H
theorem Dn_sound [Sig] {C : Cmp} (hC : CmpOk C) {I : Nat → Option Ir} (hI : ∀ f i, I f = some i → IrSound C.P f i) (hp : ∀ f, pureF f = true → ∃ i, I f = some i ∧ IrStill i) : ∀ m, DS C.P (Dn C I m)
  | 0 => ⟨fun tg vs H k h => (by cases h), fun _ _ _ _ _ => rfl⟩
  | m + 1 => ⟨fun tg vs H k h => by
      cases tg with
      | fn f =>
        have h : (Option.rec ((fdOf C f).run (Dn C I m) vs H k) (fun i => i.run vs H k) (I f) : Bool) = true := h
        cases hi : I f with
        | none => rw [hi] at h; exact fdOf_sound hC (Dn_sound hC hI hp m) h
        | some i => rw [hi] at h; exact hI f i hi vs H k h
      | yld l => exact roundK_sound hC (Dn_sound hC hI hp m) h, fun f hf vs H k => by
      obtain ⟨i, h1, h2⟩ := hp f hf
      show (Option.rec ((fdOf C f).run (Dn C I m) vs H k) (fun i => i.run vs H k) (I f) : Bool) = (Option.rec ((fdOf C f).run (Dn C I m) vs H fun x _ => k x H) (fun i => i.run vs H fun x _ => k x H) (I f) : Bool)
      rw [h1]
      exact h2 vs H k⟩
end Go.Proofs.YtmdciljpcnokcaaGreatDoor.Ex
