/-
  A run of closed code by the kernel: new cells, structs, rows, functions' values, calls.
-/
import Derived.Test.YtmdciljpcnokcaaGreatDoorEzC
import Derived.Laws.Tables
import Derived.Laws.BytesString
import Derived.Laws.IdiomStrings
import Derived.Laws.MakeOwn
import Derived.DeepKeys
namespace Go.Proofs.YtmdciljpcnokcaaGreatDoor.Ex
section
variable {P : Program}
/-! ### New cells -/
noncomputable def newK (et : Nat) (l : List Sc) (H : Hp) (k : Nat → Hp → Bool) : Bool := hpK H fun nx t => t.setK (some (.cells l false (some et))) nx fun t' => fNat (Nat.succ nx) fun nx' => k nx ⟨nx', t'⟩
theorem newK_eq [Sig] (et : Nat) (l : List Sc) (H : Hp) (k : Nat → Hp → Bool) : newK et l H k = H.t.setK (some (.cells l false (some et))) H.nx fun t' => k H.nx ⟨H.nx + 1, t'⟩ := by
  show (H.t.setK (some (.cells l false (some et))) H.nx fun t' => fNat (Nat.succ H.nx) fun nx' => k H.nx ⟨nx', t'⟩) = _
  simp only [fNat_eq]
theorem newK_true [Sig] {e : Nat} {l : List Sc} {H : Hp} {k : Nat → Hp → Bool} (h : newK e l H k = true) :
    ∃ H', k H.nx H' = true ∧ ∀ ι w (c : Array Value) (f : Nat × Nat), HR ι H w → l.length ≤ c.size → RL (CR ι) l (c.toList.take l.length) → (∀ i, i < c.size → ¬ (f.1 ≤ i ∧ i < f.2)) →
      HR (ι.more H.nx ⟨w.heap.size, 0, c.size⟩) H' (w.alloc (.cells c e f)) ∧ Ext ι H w (ι.more H.nx ⟨w.heap.size, 0, c.size⟩) H' (w.alloc (.cells c e f)) := by
  rw [newK_eq] at h
  obtain ⟨t', h1, h2, h3⟩ := Tr.setK_true h
  refine ⟨_, h1, fun ι w c f hH hl hR hf => hH.alloc (.cells c e f) c.size h2 h3 ?_⟩
  refine ⟨_, c, e, f, Inj.more_same, World.alloc_heap_new _ _, ⟨by simp, fun t ht => by cases ht; exact ⟨rfl, rfl⟩⟩, hl, fun i y hy => ?_, fun _ => hf⟩
  obtain ⟨v, h4, h5⟩ := hR.get i y hy
  rw [List.getElem?_take] at h4
  split at h4
  · exact ⟨v, by simpa using h4, h5.mono (Inj.le_more (hH.fresh _ (Nat.le_refl _)).1)⟩
  · cases h4
/-- a type's cells without anything, and how many -/
def zeroOf (P : Program) (t : TypeId) : Option (List Sc) := (P.info? t).bind fun i => i.zero.bind fun z => scVs z.cells.toList
theorem zeroOf_spec [Sig] {t : TypeId} {l : List Sc} (h : zeroOf P t = some l) : ∃ i z, P.info? t = some i ∧ i.zero = some z ∧ ∀ ι, RL (CR ι) l z.cells.toList := by
  unfold zeroOf at h
  cases hi : P.info? t with
  | none => rw [hi] at h; cases h
  | some i =>
    rw [hi] at h
    cases hz : i.zero with
    | none => simp [hz] at h
    | some z =>
      simp only [Option.bind_some, hz] at h
      exact ⟨i, z, rfl, hz, scVs_R h⟩
noncomputable def allocR (P : Program) (t : TypeId) : Cr :=
  match zeroOf P t with
  | some l => ⟨fun _ vs H k => List.rec (newK t l H fun b H' => k (.s (.ptr b 0)) H') (fun _ _ _ => false) vs⟩
  | none => badR
theorem allocR_sound [Sig] {o : Oper} {t : TypeId} (ho : o.op = .alloc t) : CrSound P (allocR P t) o := by
  unfold allocR
  split
  case h_2 => exact badR_sound o
  rename_i l hz
  obtain ⟨i, z, hi, hz, hR⟩ := zeroOf_spec hz
  intro D vs H k _ h
  match vs, h with
  | [], h =>
    obtain ⟨H', h1, h2⟩ := newK_true (show newK t l H (fun b H' => k (.s (.ptr b 0)) H') = true from h)
    refine ⟨_, H', h1, fun ι w ρ hv hH => ?_⟩
    have hlen := (hR ι).length
    obtain ⟨h3, h4⟩ := h2 ι w z.cells (0, 0) hH (by simp at hlen; omega) (by rw [hlen, List.take_length]; exact hR ι) (fun i _ => by simp)
    refine opTo_value (fun c e => by rw [ho] at e; cases e) (v := .pointer (some ⟨w.heap.size, 0, none⟩)) ?_ ⟨_, h4, h3, _, Inj.more_same, rfl⟩
    simp [execOp, ho, Instr.alloc, zeroValue, typeInfo, hi, hz, newVar, newRow]
  | _ :: _, h => cases h
noncomputable def boxR (t : TypeId) : Cr := ⟨fun _ vs H k => arg1 vs fun v => cellsK v fun l => newK t l H fun b H' => k (.s (.ptr b 0)) H'⟩
theorem boxR_sound [Sig] {o : Oper} {t : TypeId} {x : Operand} (ho : o.op = .box t x) : CrSound P (boxR t) o := by
  intro D vs H k _ h
  obtain ⟨u, rfl, h1⟩ := arg1_true h
  obtain ⟨l, h2, h3⟩ := cellsK_true h1
  obtain ⟨H', h4, h5⟩ := newK_true h2
  refine ⟨_, H', h4, fun ι w ρ hv hH => ?_⟩
  have e0 : o.op.operands.toList = [x] := by rw [ho]; rfl
  rw [e0] at hv
  have hR := h3 ι _ hv.1
  have hlen := hR.length
  obtain ⟨h6, h7⟩ := h5 ι w (ρ x).cells (0, 0) hH (by simp at hlen; omega) (by rw [hlen, List.take_length]; exact hR) (fun i _ => by simp)
  refine opTo_value (fun c e => by rw [ho] at e; cases e) (v := .pointer (some ⟨w.heap.size, 0, none⟩)) ?_ ⟨_, h7, h6, _, Inj.more_same, rfl⟩
  simp [execOp, ho, Instr.box, newVar, newRow]
/-! ### Structs out of their parts -/
theorem foldl_set (off : Nat) : ∀ (m : List Value) (k : Nat) (cells : Array Value), off + k + m.length ≤ cells.size →
    ((m.zipIdx k).foldl (fun cs (x : Value × Nat) => cs.setIfInBounds (off + x.2) x.1) cells).toList = cells.toList.take (off + k) ++ m ++ cells.toList.drop (off + k + m.length)
  | [], k, cells, _ => by simp
  | c :: m, k, cells, h => by
    simp only [List.length_cons] at h
    simp only [List.zipIdx_cons, List.foldl_cons]
    rw [foldl_set off m (k + 1) _ (by simp; omega)]
    apply List.ext_getElem?
    intro i
    have hsz : (cells.setIfInBounds (off + k) c).toList = cells.toList.set (off + k) c := by simp
    rw [hsz]
    simp only [List.append_assoc, List.getElem?_append, List.length_take, List.length_set, Array.length_toList, List.getElem?_take, List.getElem?_drop, List.getElem?_set, List.length_cons]
    by_cases h1 : i < off + k
    · have c1 : i < min (off + (k + 1)) cells.size := by omega
      have c2 : i < min (off + k) cells.size := by omega
      have c3 : i < off + (k + 1) := by omega
      have c4 : ¬ off + k = i := by omega
      simp [c1, c2, c3, c4, h1]
    · by_cases h2 : i = off + k
      · subst h2
        have c1 : off + k < min (off + (k + 1)) cells.size := by omega
        have c2 : ¬ off + k < min (off + k) cells.size := by omega
        have c3 : off + k < cells.size := by omega
        have c4 : off + k - min (off + k) cells.size = 0 := by omega
        simp [c1, c2, c3, c4]
      · have c1 : ¬ i < min (off + (k + 1)) cells.size := by omega
        have c2 : ¬ i < min (off + k) cells.size := by omega
        have e1 : i - min (off + (k + 1)) cells.size = i - (off + k + 1) := by omega
        have e2 : i - min (off + k) cells.size = (i - (off + k + 1)) + 1 := by omega
        rw [if_neg c1, if_neg c2, e1, e2]
        simp only [List.getElem?_cons_succ, Nat.add_lt_add_iff_right]
        by_cases h3 : i - (off + k + 1) < m.length
        · simp [h3]
        · have c5 : ¬ off + k = off + (k + 1) + m.length + (i - (off + k + 1) - m.length) := by omega
          simp only [h3, if_false, c5]
          congr 1
          omega
noncomputable def fillK (ps : List (Nat × Nat)) : List Va → List Sc → (List Sc → Bool) → Bool :=
  List.rec (fun vs l k => List.rec (k l) (fun _ _ _ => false) vs) (fun p _ ih vs l k => List.rec false (fun v vs _ => cellsK v fun m => Prod.rec (fun off sz => andK (Nat.beq (lenS m) sz) (putL m l off fun l' => ih vs l' k)) p) vs) ps
theorem fillK_true [Sig] (place : Nat → Option (Nat × Nat)) : ∀ {ps : List (Nat × Nat)} {vs : List Va} {l : List Sc} {k : List Sc → Bool}, fillK ps vs l k = true →
    ∃ l', k l' = true ∧ l'.length = l.length ∧ ∀ ι (us : List Value) (is : List Nat) (cells : Array Value), is.map place = ps.map some → RL (Va.R ι) vs us → RL (CR ι) l cells.toList →
      ∃ cells', Instr.fill place cells (is.zip us) = some cells' ∧ RL (CR ι) l' cells'.toList
  | [], [], l, k, h => ⟨l, h, rfl, fun ι us is cells hi hu hl => by
    cases is with
    | nil => exact ⟨cells, rfl, hl⟩
    | cons => cases hi⟩
  | [], _ :: _, l, k, h => by cases h
  | _ :: _, [], l, k, h => by cases h
  | (off, sz) :: ps, v :: vs, l, k, h => by
    obtain ⟨m, h1, h2⟩ := cellsK_true (show cellsK v (fun m => andK (Nat.beq (lenS m) sz) (putL m l off fun l' => fillK ps vs l' k)) = true from h)
    obtain ⟨h3, h4⟩ := andK_true h1
    have h3 := beq_true h3
    rw [lenS_eq] at h3
    obtain ⟨h5, h6⟩ := putL_true h4
    obtain ⟨l', h7, h8, h9⟩ := fillK_true place h6
    refine ⟨l', h7, ?_, fun ι us is cells hi hu hl => ?_⟩
    · rw [h8]; simp; omega
    cases is with
    | nil => cases hi
    | cons i is =>
      cases us with
      | nil => exact hu.elim
      | cons u us =>
        simp only [List.map_cons, List.cons.injEq] at hi
        have hm := h2 ι u hu.1
        have hml := hm.length
        have hll := hl.length
        simp at hml hll
        have hfold : (u.cells.zipIdx.foldl (fun cs (x : Value × Nat) => cs.setIfInBounds (off + x.2) x.1) cells).toList = cells.toList.take off ++ u.cells.toList ++ cells.toList.drop (off + m.length) := by
          have := foldl_set off u.cells.toList 0 cells (by simp; omega)
          rw [← Array.foldl_toList, Array.toList_zipIdx]
          simpa [hml] using this
        obtain ⟨cells', e1, e2⟩ := h9 ι us is _ hi.2 hu.2 (by
          rw [hfold]
          exact ((hl.take off).append hm).append (hl.drop _))
        refine ⟨cells', ?_, e2⟩
        simp only [List.zip_cons_cons, Instr.fill, hi.1]
        rw [if_neg]
        · exact e1
        · simp only [ne_eq, Bool.or_eq_true, decide_eq_true_eq, not_or, Nat.not_lt]
          exact ⟨by simpa using (by omega : u.cells.size = sz), by omega⟩
/-- where parts lie in a type's cells -/
def placesOf (P : Program) (t : TypeId) (is : List Nat) : Option (List (Nat × Nat)) :=
  match P.underlying t with
  | some (.struct fields) => (fields.toList.mapM (fun f => (P.info? f.type).map fun i => (f.offset, i.size))).bind fun places => is.mapM (places.toArray[·]?)
  | some (.array _ e) => (P.info? e).bind fun i => is.mapM fun j => some (j * i.size, i.size)
  | _ => none
theorem mapM_map {α β : Type} {f : α → Option β} : ∀ {l : List α} {r : List β}, l.mapM f = some r → l.map f = r.map some
  | [], r, h => by simp at h; subst h; rfl
  | x :: l, r, h => by
    simp only [List.mapM_cons, Option.bind_eq_bind, Option.pure_def] at h
    cases hx : f x with
    | none => simp [hx] at h
    | some y =>
      cases hr : l.mapM f with
      | none => simp [hx, hr] at h
      | some ys =>
        simp [hx, hr] at h
        subst h
        simp [hx, mapM_map hr]
theorem placesOf_built [Sig] {t : TypeId} {is : List Nat} {ps : List (Nat × Nat)} {z : Value} {i : TypeInfo} (h : placesOf P t is = some ps) (hi : P.info? t = some i) (hz : i.zero = some z) :
    ∃ place, is.map place = ps.map some ∧ ∀ parts, P.built t parts = Instr.fill place z.cells parts := by
  unfold placesOf at h
  split at h
  · rename_i fields hu
    cases hp : fields.toList.mapM (fun f => (P.info? f.type).map fun i => (f.offset, i.size)) with
    | none => rw [hp] at h; cases h
    | some places =>
      rw [hp] at h
      exact ⟨_, mapM_map h, fun parts => by simp [Program.built, hi, hu, hz, hp]⟩
  · rename_i n e hu
    cases he : P.info? e with
    | none => rw [he] at h; cases h
    | some ie =>
      rw [he] at h
      exact ⟨_, mapM_map h, fun parts => by simp [Program.built, hi, hu, hz, he]⟩
  · cases h
noncomputable def buildR (P : Program) (t : TypeId) (is : List Nat) : Cr :=
  match zeroOf P t, placesOf P t is with
  | some z, some ps => ⟨fun _ vs H k => fillK ps vs z fun l => k (.g l) H⟩
  | _, _ => badR
theorem buildR_sound [Sig] {o : Oper} {t : TypeId} {parts : Array (Nat × Operand)} (ho : o.op = .build t parts) : CrSound P (buildR P t (parts.toList.map (·.1))) o := by
  unfold buildR
  split
  case h_2 => exact badR_sound o
  rename_i zl ps hz hps
  obtain ⟨i, z, hi, hz, hR⟩ := zeroOf_spec hz
  obtain ⟨place, hpl, hb⟩ := placesOf_built hps hi hz
  intro D vs H k _ h
  obtain ⟨l, h1, _, h2⟩ := fillK_true place h
  refine ⟨_, H, h1, opSound_pure (fun c e => by rw [ho] at e; cases e) fun ι w ρ hv hH => ?_⟩
  have e0 : o.op.operands.toList = parts.toList.map (·.2) := by rw [ho]; simp [Op.operands]
  rw [e0] at hv
  have hu : RL (Va.R ι) vs (parts.toList.map fun p => ρ p.2) := by
    have hl := hv.length
    refine RL.of_get (by simpa using hl) fun j x y hx hy => ?_
    obtain ⟨op, e1, e2⟩ := hv.get j x hx
    rw [List.getElem?_map] at e1 hy
    cases hj : parts.toList[j]? with
    | none => rw [hj] at e1; cases e1
    | some p =>
      rw [hj] at e1 hy
      cases e1
      cases hy
      exact e2
  obtain ⟨cells', e1, e2⟩ := h2 ι _ _ z.cells hpl hu (hR ι)
  refine ⟨.agg cells', ?_, cells', rfl, e2⟩
  have e3 : (parts.toList.map (·.1)).zip (parts.toList.map fun p => ρ p.2) = (parts.map fun (i, x) => (i, ρ x)).toList := by
    simp only [Array.toList_map]
    induction parts.toList with
    | nil => rfl
    | cons p l ih => simp [ih]
  rw [e3, ← hb] at e1
  simp only [execOp, ho]
  rw [Sem.run_bind, run_build w t _ cells' e1]
  rfl
/-! ### Functions' values and calls -/
noncomputable def mkfR (f : Nat) : Cr := ⟨fun _ vs H k => List.rec (k (.s (.oth (.fn0 f))) H) (fun _ _ _ => toWds vs fun l => hpK H fun nx t => t.setK (some (.clo l)) nx fun t' => k (.s (.oth (.fn f nx))) ⟨Nat.succ nx, t'⟩) vs⟩
theorem RL_map_right {α β γ : Type} {R : α → γ → Prop} {g : β → γ} : ∀ {l : List α} {m : List β}, RL (fun x y => R x (g y)) l m → RL R l (m.map g)
  | [], [], _ => trivial
  | _ :: _, _ :: _, ⟨h1, h2⟩ => ⟨h1, RL_map_right h2⟩
  | [], _ :: _, h => h.elim
  | _ :: _, [], h => h.elim
theorem mkfR_sound [Sig] {o : Oper} {f : Nat} {captured : Array Operand} (ho : o.op = .makeFunc (.func f) #[] captured) : CrSound P (mkfR f) o := by
  intro D vs H k _ h
  have e0 : o.op.operands.toList = captured.toList := by rw [ho]; simp [Op.operands]
  match vs, h with
  | [], h =>
    refine ⟨_, H, h, opSound_pure (fun c e => by rw [ho] at e; cases e) fun ι w ρ hv hH => ?_⟩
    rw [e0] at hv
    have hl := hv.length
    have : captured = #[] := by
      apply Array.ext'
      exact List.eq_nil_of_length_eq_zero (by simpa using hl.symm)
    subst this
    refine ⟨.func (.func f) #[] #[], ?_, rfl⟩
    simp [execOp, ho, Instr.makeFunc]
  | v :: vs, h =>
    obtain ⟨l, h1, h2⟩ := toWds_true (show toWds (v :: vs) (fun l => H.t.setK (some (.clo l)) H.nx fun t' => k (.s (.oth (.fn f H.nx))) ⟨H.nx + 1, t'⟩) = true from h)
    obtain ⟨t', h3, h4, h5⟩ := Tr.setK_true h1
    refine ⟨_, _, h3, fun ι w ρ hv hH => ?_⟩
    rw [e0] at hv
    have hu : RL (Va.R ι) (v :: vs) (captured.map ρ).toList := by rw [Array.toList_map]; exact RL_map_right hv
    obtain ⟨h6, h7⟩ := hH.clos (captured.map ρ) h4 h5 (h2 ι _ hu)
    refine opTo_value (fun c e => by rw [ho] at e; cases e) (v := .func (.func f) #[] (captured.map ρ)) ?_ ⟨_, h7, h6, _, Inj.moreClo_same, rfl⟩
    simp [execOp, ho, Instr.makeFunc]
/-- what is called -/
noncomputable def callR : Cr := ⟨fun D vs H k => List.rec false (fun fv vs _ => asS fv fun x => Sc.rec (fun _ _ => false) (fun _ _ => false) (fun _ _ => false) (fun _ => false) (fun _ _ _ _ _ => false)
  (fun o => Ot.rec false false false false false false (fun f => D (.fn f) vs H k) (fun f c => H.t.getK c fun ob => Ob.rec (fun _ _ _ => false) false (fun l => capK l fun m => appV vs m fun r => D (.fn f) r H k) (fun _ => false) (fun _ => false) ob) (fun l => D (.yld l) vs H k) (fun _ => false) false (fun _ => false) o) x) vs⟩
theorem callR_sound [Sig] {o : Oper} {fo : Operand} {args : Array Operand} {ats : Array TypeId} (ho : o.op = .call { callee := .value fo, args, argTypes := ats }) : CrSound P callR o := by
  intro D vs H k hD h
  have hnd : ∀ c, o.op ≠ .defer c := fun c e => by rw [ho] at e; cases e
  match vs, h with
  | [], h => cases h
  | fv :: vs, h =>
    obtain ⟨x, rfl, h1⟩ := asS_true (show asS fv _ = true from h)
    have e0 : o.op.operands.toList = fo :: args.toList := by rw [ho]; simp [Op.operands, Call.operands]
    cases x with
    | oth ot =>
      cases ot with
      | fn0 f =>
        obtain ⟨x, H', h2, h3⟩ := hD.go (.fn f) vs H k h1
        refine ⟨x, H', h2, fun ι w ρ hv hH => ?_⟩
        rw [e0] at hv
        have e1 : ρ fo = .func (.func f) #[] #[] := hv.1
        have hu : RL (Va.R ι) vs (args.map ρ).toList := by rw [Array.toList_map]; exact RL_map_right hv.2
        obtain ⟨h4, h5⟩ := h3 ι w (args.map ρ) hu hH
        refine opTo_enter hnd (w₁ := w) (f := f) (args := args.map ρ) ?_ h5
        simp [execOp, ho, resolve, e1, Deferred.ofValue, invoke, h4]
      | fn f c =>
        have h1 : (H.t.getK c fun ob => Ob.rec (fun _ _ _ => false) false (fun l => capK l fun m => appV vs m fun r => D (.fn f) r H k) (fun _ => false) (fun _ => false) ob) = true := h1
        obtain ⟨ob, h6, h7⟩ := Tr.getK_true h1
        cases ob with
        | clo l =>
          have h7 : capK l (fun m => appV vs m fun r => D (.fn f) r H k) = true := h7
          rw [capK_eq, appV_eq] at h7
          obtain ⟨x, H', h2, h3⟩ := hD.go (.fn f) _ H k h7
          refine ⟨x, H', h2, fun ι w ρ hv hH => ?_⟩
          rw [e0] at hv
          obtain ⟨⟨cap, e2, e1⟩, hv⟩ := hv
          obtain ⟨cap', e3, e4⟩ := hH.obj c _ h6
          rw [e2] at e3
          cases e3
          have hu : RL (Va.R ι) (vs ++ l.map ofWd) (args.map ρ ++ cap).toList := by
            rw [Array.toList_append, Array.toList_map]
            refine (RL_map_right hv).append ?_
            refine RL.of_get (by simpa using e4.length) fun i y z hy hz => ?_
            rw [List.getElem?_map] at hy
            cases hli : l[i]? with
            | none => rw [hli] at hy; cases hy
            | some q =>
              rw [hli] at hy
              cases hy
              obtain ⟨z', e5, e6⟩ := e4.get i q hli
              rw [hz] at e5
              cases e5
              exact ofWd_R e6
          obtain ⟨h4, h5⟩ := h3 ι w _ hu hH
          refine opTo_enter hnd (w₁ := w) (f := f) (args := args.map ρ ++ cap) ?_ h5
          simp [execOp, ho, resolve, e1, Deferred.ofValue, invoke, h4]
        | _ => cases h7
      | yld l =>
        obtain ⟨x, H', h2, h3⟩ := hD.go (.yld l) vs H k h1
        refine ⟨x, H', h2, fun ι w ρ hv hH => ?_⟩
        rw [e0] at hv
        obtain ⟨⟨y, hy, e1⟩, hv⟩ := hv
        have hu : RL (Va.R ι) vs (args.map ρ).toList := by rw [Array.toList_map]; exact RL_map_right hv
        obtain ⟨f, tmps, asg, body, h4, h5⟩ := h3 ι w (args.map ρ) hu hH y hy
        refine opTo_round hnd (w₁ := w) (l := y.block) (f := f) (tmps := tmps) (assign := asg) (body := body) ?_ h5
        simp [execOp, ho, resolve, e1, Deferred.ofValue, invoke, h4]
      | _ => cases h1
    | _ => cases h1
/-- a call of a function that leaves nothing behind -/
noncomputable def pcallR : Cr := ⟨fun D vs H k => List.rec false (fun fv vs _ => asS fv fun x => Sc.rec (fun _ _ => false) (fun _ _ => false) (fun _ _ => false) (fun _ => false) (fun _ _ _ _ _ => false)
  (fun o => Ot.rec false false false false false false (fun f => andK (pureF f) (D (.fn f) vs H k)) (fun _ _ => false) (fun _ => false) (fun _ => false) false (fun _ => false) o) x) vs⟩
theorem pcallR_sound [Sig] {o : Oper} {fo : Operand} {args : Array Operand} {ats : Array TypeId} (ho : o.op = .call { callee := .value fo, args, argTypes := ats }) : CrSound P pcallR o := by
  intro D vs H k hD h
  refine callR_sound ho D vs H k hD ?_
  match vs, h with
  | [], h => cases h
  | fv :: vs, h =>
    obtain ⟨x, rfl, h1⟩ := asS_true (show asS fv _ = true from h)
    cases x with
    | oth ot =>
      cases ot with
      | fn0 f => exact (andK_true (show andK (pureF f) (D (.fn f) vs H k) = true from h1)).2
      | _ => cases h1
    | _ => cases h1
def pureOp (fo : Operand) : Bool := match fo with
  | .func f => pureF f
  | _ => false
end
end Go.Proofs.YtmdciljpcnokcaaGreatDoor.Ex
/-
  A run of closed code by the kernel: lengths, the least and the greatest, append and copy.
-/
namespace Go.Proofs.YtmdciljpcnokcaaGreatDoor.Ex
section
variable {P : Program}
theorem exec_builtin {o : Oper} {b : Builtin} {args : Array Operand} {ats : Array TypeId} (ho : o.op = .call { callee := .builtin b, args, argTypes := ats }) (ρ : Operand → Value) :
    execOp ρ o = builtin b ats o.type (args.map fun | .const _ => true | _ => false) (args.map ρ) := by
  obtain ⟨dst, op, type, pos, after, guard⟩ := o
  have ho : op = _ := ho
  subst ho
  rfl
theorem ops_builtin {o : Oper} {b : Builtin} {args : Array Operand} {ats : Array TypeId} (ho : o.op = .call { callee := .builtin b, args, argTypes := ats }) : o.op.operands.toList = args.toList := by
  rw [ho]; simp [Op.operands, Call.operands]
/-- how many elements a row has -/
noncomputable def lenK' (v : Va) (k : Nat → Bool) : Bool := asS v fun x => Sc.rec (fun _ _ => false) (fun l _ => k l) (fun _ _ => false) (fun _ => false) (fun _ _ len _ _ => k len) (fun o => Ot.rec false false false (k 0) false false (fun _ => false) (fun _ _ => false) (fun _ => false) (fun _ => false) (k 0) (fun _ => false) o) x
theorem lenK'_true [Sig] {v : Va} {k : Nat → Bool} (h : lenK' v k = true) : ∃ n, k n = true ∧ ∀ ι u, v.R ι u → (∃ s, u = .string s ∧ s.size = n) ∨ ∃ a c, u = .slice a n c := by
  obtain ⟨x, rfl, h1⟩ := asS_true h
  cases x with
  | str l n => exact ⟨l, h1, fun ι u ⟨s, e, hs⟩ => .inl ⟨s, e, hs.size⟩⟩
  | sl b off len esz cap => exact ⟨len, h1, fun ι u ⟨y, c, _, e, _⟩ => .inr ⟨_, c, e⟩⟩
  | oth o =>
    cases o with
    | nils => exact ⟨0, h1, fun ι u e => .inr ⟨_, _, e⟩⟩
    | emp => exact ⟨0, h1, fun ι u ⟨a, c, e⟩ => .inr ⟨_, _, e⟩⟩
    | _ => cases h1
  | _ => cases h1
noncomputable def lenR (P : Program) (t : TypeId) : Cr :=
  match P.underlying t with
  | some .string => ⟨fun _ vs H k => arg1 vs fun x => asStr x fun n _ => k (.s (.int 3 (Int.ofNat n))) H⟩
  | some (.slice _) => ⟨fun _ vs H k => arg1 vs fun x => lenK' x fun n => andK (notB (asStr x fun _ _ => true)) (k (.s (.int 3 (Int.ofNat n))) H)⟩
  | _ => badR
theorem lenR_sound [Sig] {o : Oper} {args : Array Operand} {ats : Array TypeId} {t : TypeId} (ho : o.op = .call { callee := .builtin .len, args, argTypes := ats }) (ht : ats[0]? = some t) : CrSound P (lenR P t) o := by
  have hnd : ∀ c, o.op ≠ .defer c := fun c e => by rw [ho] at e; cases e
  unfold lenR
  split
  · rename_i hu
    intro D vs H k _ h
    obtain ⟨u, rfl, h1⟩ := arg1_true h
    obtain ⟨n, s, rfl, h2⟩ := asStr_true h1
    refine ⟨_, H, h2, opSound_pure hnd fun ι w ρ hv hH => ?_⟩
    rw [ops_builtin ho] at hv
    obtain ⟨x, e1, b, e2, hb⟩ := RL1 hv
    have e3 : args.map ρ = #[.string b] := by
      apply Array.ext'
      rw [Array.toList_map, e1]
      simp [e2]
    refine ⟨.int .i64 (Int.ofNat n), ?_, rfl⟩
    rw [exec_builtin ho, e3]
    simp only [builtin, Sem.run_bind]
    simp [Builtin.len_, ht, run_underlying hu, goInt, hb.size]
  · rename_i e hu
    intro D vs H k _ h
    obtain ⟨u, rfl, h1⟩ := arg1_true h
    obtain ⟨n, h2, h3⟩ := lenK'_true h1
    obtain ⟨h4, h5⟩ := andK_true h2
    refine ⟨_, H, h5, opSound_pure hnd fun ι w ρ hv hH => ?_⟩
    rw [ops_builtin ho] at hv
    obtain ⟨x, e1, hx⟩ := RL1 hv
    refine ⟨.int .i64 (Int.ofNat n), ?_, rfl⟩
    rcases h3 ι _ hx with ⟨s, e2, _⟩ | ⟨a, c, e2⟩
    · exfalso
      obtain ⟨x', rfl, _⟩ := asS_true h1
      rw [notB_eq] at h4
      cases x' with
      | str l n => cases h4
      | int k n => have := hx; rw [e2] at this; cases this
      | ptr b off => obtain ⟨y, _, h6⟩ := hx; rw [e2] at h6; cases h6
      | bool b => have := hx; rw [e2] at this; cases this
      | sl b off len esz cap => obtain ⟨y, c, _, h6, _⟩ := hx; rw [e2] at h6; cases h6
      | oth ot =>
        cases ot with
        | nils => have := hx; rw [e2] at this; cases this
        | emp => obtain ⟨_, _, h6⟩ := hx; rw [e2] at h6; cases h6
        | _ => cases h1
    · have e3 : args.map ρ = #[.slice a n c] := by
        apply Array.ext'
        rw [Array.toList_map, e1]
        simp [e2]
      rw [exec_builtin ho, e3]
      simp only [builtin, Sem.run_bind]
      simp [Builtin.len_, ht, run_underlying hu, goInt]
  · exact badR_sound o
noncomputable def mmR (mx : Bool) : Cr := ⟨fun _ vs H k => on2I vs fun kc a b => Bool.rec (Bool.rec (k (.s (.int kc a)) H) (k (.s (.int kc b)) H) (ltI b a)) (Bool.rec (k (.s (.int kc a)) H) (k (.s (.int kc b)) H) (ltI a b)) mx⟩
theorem maxR_sound [Sig] {o : Oper} {args : Array Operand} {ats : Array TypeId} (ho : o.op = .call { callee := .builtin .max, args, argTypes := ats }) : CrSound P (mmR true) o := by
  intro D vs H k _ h
  obtain ⟨kc, a, b, rfl, h1⟩ := on2I_true h
  have h2 : k (.s (.int kc (if b > a then b else a))) H = true := by
    have h1 : (Bool.rec (k (.s (.int kc a)) H) (k (.s (.int kc b)) H) (ltI a b) : Bool) = true := h1
    rw [ltI_eq] at h1
    by_cases hab : a < b
    · rw [decide_eq_true hab] at h1; rw [if_pos (by omega)]; exact h1
    · rw [decide_eq_false hab] at h1; rw [if_neg (by omega)]; exact h1
  refine ⟨_, H, h2, opSound_pure (fun c e => by rw [ho] at e; cases e) fun ι w ρ hv hH => ?_⟩
  rw [ops_builtin ho] at hv
  obtain ⟨x, y, e1, hx, hy⟩ := RL2 hv
  have hx : ρ x = .int (kOf kc) a := hx
  have hy : ρ y = .int (kOf kc) b := hy
  have e3 : args.map ρ = #[.int (kOf kc) a, .int (kOf kc) b] := by
    apply Array.ext'
    rw [Array.toList_map, e1]
    simp [hx, hy]
  refine ⟨.int (kOf kc) (if b > a then b else a), ?_, rfl⟩
  rw [exec_builtin ho, e3]
  simp only [builtin, Sem.run_bind]
  simp [Builtin.max_, Builtin.max2]
theorem minR_sound [Sig] {o : Oper} {args : Array Operand} {ats : Array TypeId} (ho : o.op = .call { callee := .builtin .min, args, argTypes := ats }) : CrSound P (mmR false) o := by
  intro D vs H k _ h
  obtain ⟨kc, a, b, rfl, h1⟩ := on2I_true h
  have h2 : k (.s (.int kc (if b < a then b else a))) H = true := by
    have h1 : (Bool.rec (k (.s (.int kc a)) H) (k (.s (.int kc b)) H) (ltI b a) : Bool) = true := h1
    rw [ltI_eq] at h1
    by_cases hab : b < a
    · rw [decide_eq_true hab] at h1; rw [if_pos hab]; exact h1
    · rw [decide_eq_false hab] at h1; rw [if_neg hab]; exact h1
  refine ⟨_, H, h2, opSound_pure (fun c e => by rw [ho] at e; cases e) fun ι w ρ hv hH => ?_⟩
  rw [ops_builtin ho] at hv
  obtain ⟨x, y, e1, hx, hy⟩ := RL2 hv
  have hx : ρ x = .int (kOf kc) a := hx
  have hy : ρ y = .int (kOf kc) b := hy
  have e3 : args.map ρ = #[.int (kOf kc) a, .int (kOf kc) b] := by
    apply Array.ext'
    rw [Array.toList_map, e1]
    simp [hx, hy]
  refine ⟨.int (kOf kc) (if b < a then b else a), ?_, rfl⟩
  rw [exec_builtin ho, e3]
  simp only [builtin, Sem.run_bind]
  simp [Builtin.min_, Builtin.min2]
/-! ### What is appended or copied -/
/-- n elements' cells of a row, or of a text -/
noncomputable def rowK (sz : Nat) (n : Nat) (v : Va) (H : Hp) (k : List Sc → Bool) : Bool :=
  asS v fun x => Sc.rec (fun _ _ => false) (fun l s => andK (Nat.beq sz 1) (andK (Nat.ble n l) (ofStr n (Nat.mod s (Nat.pow 65536 n)) k))) (fun _ _ => false) (fun _ => false)
    (fun b off len _ _ => andK (Nat.ble n len) (hpK H fun _ t => t.getK b fun o => asCells o fun l _ _ => dropL l off fun l' => takeL l' (Nat.mul n sz) k))
    (fun o => Ot.rec false false false (andK (Nat.beq n 0) (k [])) false false (fun _ => false) (fun _ _ => false) (fun _ => false) (fun _ => false) (andK (Nat.beq n 0) (k [])) (fun _ => false) o) x
theorem rowK_true [Sig] {sz n : Nat} {v : Va} {H : Hp} {k : List Sc → Bool} (h : rowK sz n v H k = true) :
    ∃ l, k l = true ∧ l.length = n * sz ∧ ∀ ι w u, HR ι H w → v.R ι u → ∃ us : Array Value, (Builtin.firstCells sz n u).run P w = .ok us w ∧ RL (CR ι) l us.toList := by
  obtain ⟨x, rfl, h1⟩ := asS_true h
  cases x with
  | str l s =>
    obtain ⟨h2, h3⟩ := andK_true (show andK (Nat.beq sz 1) (andK (Nat.ble n l) (ofStr n (Nat.mod s (Nat.pow 65536 n)) k)) = true from h1)
    obtain ⟨h4, h5⟩ := andK_true h3
    obtain rfl := beq_true h2
    have hn := ble_true h4
    obtain ⟨m, h6, h7, h8⟩ := ofStr_true h5
    refine ⟨m, h6, by omega, fun ι w u hH hu => ?_⟩
    obtain ⟨b, rfl, hb⟩ := hu
    have he := hb.extract (Nat.zero_le n) hn
    refine ⟨_, rfl, ?_⟩
    have : ((b.extract 0 n).data.map fun b => Value.int .u8 b.toNat).toList = (bytesOf n (s % 65536 ^ n)).map fun b => .int .u8 b.toNat := by
      rw [Array.toList_map, he.1]
      simp
    rw [this]
    exact h8 ι
  | sl b off len esz cap =>
    obtain ⟨h2, h3⟩ := andK_true (show andK (Nat.ble n len) (H.t.getK b fun o => asCells o fun l _ _ => dropL l off fun l' => takeL l' (Nat.mul n sz) k) = true from h1)
    obtain ⟨o, h4, h5⟩ := Tr.getK_true h3
    obtain ⟨l, fz, et, rfl, h6⟩ := asCells_true h5
    obtain ⟨h7, h8⟩ := dropL_true h6
    obtain ⟨h9, h10⟩ := takeL_true h8
    have hlen : ((l.drop off).take (n * sz)).length = n * sz := by
      have h9 : n * sz ≤ (l.drop off).length := h9
      rw [List.length_take]; omega
    refine ⟨_, h10, hlen, fun ι w u hH hu => ?_⟩
    obtain ⟨y, c', hy, rfl, _⟩ := hu
    obtain ⟨y', c, e, f, e1, e2, e3, e4, e5, e6⟩ := hH.obj b _ h4
    rw [hy] at e1
    cases e1
    have hvs : ∀ j v, ((c.toList.drop (y.base + off)).take (n * sz))[j]? = some v → c[y.base + off + j]? = some v := by
      intro j v hj
      rw [List.getElem?_take] at hj
      split at hj
      · simpa using hj
      · cases hj
    have hcl : ((c.toList.drop (y.base + off)).take (n * sz)).length = n * sz := by
      have h9 : n * sz ≤ (l.drop off).length := h9
      simp at h9 ⊢
      omega
    have hrun := run_loadCells' (P := P) e2 ((c.toList.drop (y.base + off)).take (n * sz)) hvs
    rw [hcl] at hrun
    refine ⟨_, hrun, RL.of_get (by show ((l.drop off).take (n * sz)).length = _; rw [hlen, hcl]) fun i u v hu hv => ?_⟩
    have hu : ((l.drop off).take (n * sz))[i]? = some u := hu
    rw [List.getElem?_take] at hu
    split at hu
    · rw [List.getElem?_drop] at hu
      obtain ⟨v', e7, e8⟩ := e5 _ _ hu
      have := hvs i v hv
      rw [Nat.add_assoc] at this
      rw [this] at e7
      cases e7
      exact e8
    · cases hu
  | oth o =>
    cases o with
    | nils =>
      obtain ⟨h2, h3⟩ := andK_true (show andK (Nat.beq n 0) (k []) = true from h1)
      obtain rfl := beq_true h2
      exact ⟨[], h3, by simp, fun ι w u hH hu => ⟨#[], by have hu : u = _ := hu; subst hu; rfl, trivial⟩⟩
    | emp =>
      obtain ⟨h2, h3⟩ := andK_true (show andK (Nat.beq n 0) (k []) = true from h1)
      obtain rfl := beq_true h2
      exact ⟨[], h3, by simp, fun ι w u hH hu => ⟨#[], by obtain ⟨a, c, rfl⟩ := hu; simp [Builtin.firstCells, loadCells, loadCellsFrom], trivial⟩⟩
    | _ => cases h1
  | _ => cases h1
theorem lenOf_run {n : Nat} {u : Value} (h : (∃ s, u = .string s ∧ s.size = n) ∨ ∃ a c, u = .slice a n c) (w : World) : (Builtin.lenOf u).run P w = .ok n w := by
  rcases h with ⟨s, rfl, rfl⟩ | ⟨a, c, rfl⟩ <;> rfl
noncomputable def copyR (P : Program) (t : TypeId) : Cr :=
  match P.underlying t with
  | some (.slice e) => match P.info? e with
    | some i => ⟨fun _ vs H k => arg2 vs fun d s => asSl d fun b off len _ _ => lenK' s fun m => fNat (Bool.rec len m (Nat.ble m len)) fun n => rowK i.size n s H fun l => overK b off l H fun H' => k (.s (.int 3 (Int.ofNat n))) H'⟩
    | none => badR
  | _ => badR
theorem copyR_sound [Sig] {o : Oper} {args : Array Operand} {ats : Array TypeId} {t : TypeId} (ho : o.op = .call { callee := .builtin .copy, args, argTypes := ats }) (ht : ats[0]? = some t) : CrSound P (copyR P t) o := by
  have hnd : ∀ c, o.op ≠ .defer c := fun c e => by rw [ho] at e; cases e
  unfold copyR
  split
  case h_2 => exact badR_sound o
  rename_i e hu
  split
  case h_2 => exact badR_sound o
  rename_i i hi
  intro D vs H k _ h
  obtain ⟨d, s, rfl, h1⟩ := arg2_true h
  obtain ⟨b, off, len, esz, cap, rfl, h2⟩ := asSl_true h1
  obtain ⟨m, h3, h4⟩ := lenK'_true h2
  rw [fNat_eq] at h3
  have hn : (Bool.rec len m (Nat.ble m len) : Nat) = Nat.min m len := by
    cases hc : Nat.ble m len with
    | true => have := ble_true hc; show m = min m len; omega
    | false => have : ¬ m ≤ len := fun hh => by rw [Nat.ble_eq_true_of_le hh] at hc; cases hc
               show len = min m len; omega
  rw [hn] at h3
  obtain ⟨l, h5, _, h6⟩ := rowK_true (P := P) h3
  obtain ⟨H', h7, h8⟩ := overK_true (P := P) h5
  refine ⟨_, H', h7, fun ι w ρ hv hH => ?_⟩
  rw [ops_builtin ho] at hv
  obtain ⟨x, y, e1, hx, hy⟩ := RL2 hv
  obtain ⟨z, c, hz, e2, _⟩ := hx
  have e3 : args.map ρ = #[.slice (some ⟨z.block, z.base + off, none⟩) len c, ρ y] := by
    apply Array.ext'
    rw [Array.toList_map, e1]
    simp [e2]
  obtain ⟨us, e4, e5⟩ := h6 ι w _ hH hy
  obtain ⟨w', e6, e7, e8⟩ := h8 ι w z us.toList hH hz e5
  refine opTo_value hnd (v := .int .i64 (Int.ofNat (Nat.min m len))) (w' := w') ?_ ⟨ι, e7, e8, rfl⟩
  rw [exec_builtin ho, e3]
  simp only [builtin, Sem.run_bind]
  have hl := lenOf_run (P := P) (h4 ι _ hy) w
  simp [Builtin.copy_, ht, run_underlying hu, hl, sizeOf, typeInfo, hi, e4, e6, goInt]
end
end Go.Proofs.YtmdciljpcnokcaaGreatDoor.Ex
/-
  A run of closed code by the kernel: append.
-/
namespace Go.Proofs.YtmdciljpcnokcaaGreatDoor.Ex
section
variable {P : Program}
theorem growBy_le (need : Nat) : ∀ (r c : Nat), c ≤ 2 * need + 768 → Builtin.growBy need r c ≤ 2 * need + 768
  | 0, c, h => h
  | r + 1, c, h => by
    unfold Builtin.growBy
    split
    · exact h
    · exact growBy_le need r _ (by omega)
theorem nextslicecap_le [Sig] {need c : Nat} (h : c < need) : Builtin.nextslicecap need c ≤ 2 * need + 768 := by
  unfold Builtin.nextslicecap
  split
  · omega
  · split
    · omega
    · exact growBy_le need 4 c (by omega)
/-- the second operand is no number of zeros -/
def noInt (P : Program) (ats : Array TypeId) : Bool :=
  match ats[1]? with
  | some t => match P.underlying t with
    | some (.int _) => false
    | some _ => true
    | none => false
  | none => false
theorem noInt_run {ats : Array TypeId} (h : noInt P ats = true) : ∃ t, ats[1]? = some t ∧ ∃ d, P.underlying t = some d ∧ (match d with | .int _ => true | _ => false) = false := by
  unfold noInt at h
  split at h
  · rename_i t ht
    refine ⟨t, ht, ?_⟩
    split at h
    · cases h
    · rename_i d hd _
      refine ⟨d, by assumption, ?_⟩
      cases d <;> first | rfl | (exfalso; simp_all)
    · cases h
  · cases h
theorem append_in [Sig] {ats : Array TypeId} {ty t : TypeId} {e : TypeId} {i : TypeInfo} {x : Value} {w w' : World} {base : Option Addr} {n c m : Nat} {us : Array Value} (ht : ats[0]? = some t) (hu : P.underlying t = some (.slice e)) (hi : P.info? e = some i) (hz : noInt P ats = true)
    (hl : (Builtin.lenOf x).run P w = .ok m w) (hc : n + m ≤ c) (hf : (Builtin.firstCells i.size m x).run P w = .ok us w)
    (hs : ∀ a, base = some a → (storeCells (a.add (n * i.size)) us.toList).run P w = .ok () w') (hb : base = none → w' = w) : (Builtin.append_ ats ty #[.slice base n c, x]).run P w = .ok (.slice base (n + m) c) w' := by
  obtain ⟨t1, h1, d, h2, h3⟩ := noInt_run hz
  have hzz : ((underlying t1).run P w).andThen (fun a w' => .ok (match a with | .int _ => true | _ => false) w') = .ok false w := by
    rw [run_underlying h2, Result.andThen_ok, h3]
  cases base with
  | none =>
    obtain rfl := hb rfl
    simp [Builtin.append_, ht, h1, run_underlying hu, sizeOf, typeInfo, hi, run_underlying h2, hl, hc, hf]
    cases d <;> first | (cases h3; done) | simp
  | some a =>
    have hs := hs a rfl
    simp [Builtin.append_, ht, h1, run_underlying hu, sizeOf, typeInfo, hi, run_underlying h2, hl, hc, hf]
    cases d <;> first | (cases h3; done) | simp [hs]
theorem append_grow [Sig] {ats : Array TypeId} {ty t : TypeId} {e : TypeId} {i : TypeInfo} {z : Value} {x : Value} {w : World} {base : Option Addr} {n c m : Nat} {olds us : Array Value} (ht : ats[0]? = some t) (hu : P.underlying t = some (.slice e)) (hi : P.info? e = some i) (hzv : i.zero = some z) (hz : noInt P ats = true)
    (hbytes : i.bytes ≠ 0) (hl : (Builtin.lenOf x).run P w = .ok m w) (hc : ¬ n + m ≤ c) (hroom : (2 * (n + m) + 768) * i.bytes ≤ 2 ^ 48) (hf0 : (Builtin.firstCells i.size n (.slice base n c)).run P w.drew = .ok olds w.drew) (hf : (Builtin.firstCells i.size m x).run P w.drew = .ok us w.drew) :
    ∃ q, n + m ≤ q ∧ (Builtin.append_ ats ty #[.slice base n c, x]).run P w = .ok (.slice (some ⟨w.heap.size, 0, none⟩) (n + m) q) (w.drew.alloc (.cells (olds ++ us ++ Builtin.zeroCells z.cells (q - (n + m))) e)) := by
  obtain ⟨t1, h1, d, h2, h3⟩ := noInt_run hz
  have hbig : ¬ Builtin.nextslicecap (n + m) c * i.bytes > 2 ^ 48 := by
    have := nextslicecap_le (need := n + m) (c := c) (by omega)
    have := Nat.mul_le_mul_right i.bytes this
    omega
  have hbig' : ¬ 2 ^ 48 < Builtin.nextslicecap (n + m) c * i.bytes := hbig
  refine ⟨(Question.appendCap (n + m) c e).cut (w.tape w.drawn (.appendCap (n + m) c e)), by simp [Question.cut], ?_⟩
  have hfd : (Question.appendCap (n + m) c e).forced = false := rfl
  simp only [Builtin.append_, ht]
  simp [h1, run_underlying hu, sizeOf, typeInfo, hi, run_underlying h2, hl]
  cases d <;> first | (cases h3; done) | simp [hc, hbytes, hbig', hfd, hf0, hf, zeroValue, typeInfo, hi, hzv, newRow]
end
end Go.Proofs.YtmdciljpcnokcaaGreatDoor.Ex
/-
  A run of closed code by the kernel: append, as an operation of the abstract heap.
-/
namespace Go.Proofs.YtmdciljpcnokcaaGreatDoor.Ex
section
variable {P : Program}
/-- an object is forgotten -/
theorem HR0.drop [Sig] {ι : Inj} {H : Hp} {w : World} (h : HR0 ι H w) {b : Nat} {t' : Tr} (h1 : t'.get b = none) (h2 : ∀ m, m ≠ b → t'.get m = H.t.get m) : HR0 ι ⟨H.nx, t'⟩ w ∧ Ext ι H w ι ⟨H.nx, t'⟩ w := by
  have key : ∀ b' o, t'.get b' = some o → H.t.get b' = some o := fun b' o hb => by
    by_cases e : b' = b
    · subst e; rw [h1] at hb; cases hb
    · exact (h2 b' e).symm.trans hb
  refine ⟨⟨fun b' o hb => h.obj b' o (key b' o hb), fun b' hb => ?_, fun b1 b2 o1 o2 x1 x2 e1 e2 => h.inj b1 b2 o1 o2 x1 x2 (key _ _ e1) (key _ _ e2), h.lt⟩, ⟨fun _ _ h => h, fun _ _ h => h, Nat.le_refl _, Nat.le_refl _, fun _ _ _ => rfl, fun b' o x hb hx => .inr ⟨b', o, x, key _ _ hb, hx, rfl⟩, fun b' l x hb hx _ => ⟨rfl, (by
    by_cases e : b' = b
    · refine .inr fun b1 o1 x1 hb1 hx1 he => ?_
      have := h.inj b1 b' _ _ _ _ (key _ _ hb1) hb hx1 hx he
      rw [this, e, h1] at hb1
      cases hb1
    · exact .inl ((h2 b' e).trans hb))⟩, rfl, rfl, rfl⟩⟩
  obtain ⟨h3, h4, h5⟩ := h.fresh b' hb
  refine ⟨h3, h4, ?_⟩
  show t'.get b' = none
  cases hg : t'.get b' with
  | none => rfl
  | some o => rw [key _ _ hg] at h5; cases h5
theorem HR.drop [Sig] {ι : Inj} {H : Hp} {w : World} (h : HR ι H w) {b : Nat} {t' : Tr} (h1 : t'.get b = none) (h2 : ∀ m, m ≠ b → t'.get m = H.t.get m) : HR ι ⟨H.nx, t'⟩ w ∧ Ext ι H w ι ⟨H.nx, t'⟩ w := by
  obtain ⟨a, e⟩ := HR0.drop h.toHR0 h1 h2
  exact ⟨⟨a, h.amb, h.far⟩, e⟩
noncomputable def isRow (v : Va) : Bool := asS v fun x => Sc.rec (fun _ _ => false) (fun _ _ => false) (fun _ _ => false) (fun _ => false) (fun _ _ _ _ _ => true) (fun o => Ot.rec false false false true false false (fun _ => false) (fun _ _ => false) (fun _ => false) (fun _ => false) true (fun _ => false) o) x
theorem isRow_true [Sig] {v : Va} (h : isRow v = true) : ∀ ι u, v.R ι u → ∃ a n c, u = .slice a n c ∧ n ≤ c := by
  obtain ⟨x, rfl, h1⟩ := asS_true h
  intro ι u hu
  cases x with
  | sl b off len esz cap => obtain ⟨y, c, _, e, hc, _⟩ := hu; exact ⟨_, _, _, e, hc⟩
  | oth o =>
    cases o with
    | nils => exact ⟨_, _, _, hu, Nat.le_refl _⟩
    | emp => obtain ⟨a, c, e⟩ := hu; exact ⟨_, _, _, e, Nat.zero_le _⟩
    | _ => cases h1
  | _ => cases h1
noncomputable def growK (e sz by_ len m : Nat) (s : Va) (us : List Sc) (H : Hp) (k : Va → Hp → Bool) : Bool :=
  fNat (Nat.add len m) fun n => andK (Nat.ble (Nat.mul (Nat.add (Nat.mul 2 n) 768) by_) 281474976710656) (rowK sz len s H fun olds => appL olds us fun l => newK e l H fun b H' => k (.s (.sl b 0 n sz none)) H')
/-- what is known of the element type of a row that an append may have gone on in -/
noncomputable def etK (e off : Nat) (et : Option Nat) : Option Nat := Bool.rec none (Option.rec none (fun t => Bool.rec none (some t) (Nat.beq t e)) et) (Nat.beq off 0)
theorem etK_some [Sig] {e off : Nat} {et : Option Nat} {t : Nat} (h : etK e off et = some t) : off = 0 ∧ et = some t ∧ t = e := by
  unfold etK at h
  cases h0 : Nat.beq off 0 with
  | false => rw [h0] at h; cases h
  | true =>
    rw [h0] at h
    cases et with
    | none => cases h
    | some u =>
      have h : (Bool.rec none (some u) (Nat.beq u e) : Option Nat) = some t := h
      cases h1 : Nat.beq u e with
      | false => rw [h1] at h; cases h
      | true =>
        rw [h1] at h
        cases h
        exact ⟨beq_true h0, rfl, beq_true h1⟩
noncomputable def moveK (e sz by_ b off len m : Nat) (us : List Sc) (H : Hp) (k : Va → Hp → Bool) : Bool :=
  fNat (Nat.add len m) fun n => andK (Nat.ble (Nat.mul (Nat.add (Nat.mul 2 n) 768) by_) 281474976710656) (hpK H fun nx t => t.getK b fun o => asCells o fun l fz et => Bool.rec (dropL l off fun l' => takeL l' (Nat.mul len sz) fun olds => appL olds us fun l2 =>
    t.setK none b fun t1 => t1.setK (some (.cells l2 false (etK e off et))) nx fun t2 => k (.s (.sl nx 0 n sz none)) ⟨Nat.succ nx, t2⟩) false fz)
noncomputable def appRun (e sz by_ : Nat) : Cr := ⟨fun _ vs H k => arg2 vs fun s x => lenK' x fun m => rowK sz m x H fun us => Nat.rec (andK (isRow s) (k s H)) (fun m' _ =>
  asS s fun y => Sc.rec (fun _ _ => false) (fun _ _ => false) (fun _ _ => false) (fun _ => false)
    (fun b off len esz cap => andK (Nat.beq esz sz) (Option.rec (moveK e sz by_ b off len (Nat.succ m') us H k) (fun c => Bool.rec (growK e sz by_ len (Nat.succ m') s us H k) (overK b (Nat.add off (Nat.mul len sz)) us H fun H' => fNat (Nat.add len (Nat.succ m')) fun n => k (.s (.sl b off n esz (some c))) H') (Nat.ble (Nat.add len (Nat.succ m')) c)) cap))
    (fun o => Ot.rec false false false (growK e sz by_ 0 (Nat.succ m') s us H k) false false (fun _ => false) (fun _ _ => false) (fun _ => false) (fun _ => false) false (fun _ => false) o) y) m⟩
noncomputable def appR (P : Program) (ats : Array TypeId) : Cr :=
  match ats[0]? with
  | some t => match P.underlying t with
    | some (.slice e) => match P.info? e, zeroOf P e with
      | some i, some z => if noInt P ats = true ∧ i.bytes ≠ 0 ∧ z.length = i.size then appRun e i.size i.bytes else badR
      | _, _ => badR
    | _ => badR
  | none => badR
theorem firstCells_drew {sz n : Nat} {u : Value} {us : Array Value} {w : World} (h : (Builtin.firstCells sz n u).run P w = .ok us w) : (Builtin.firstCells sz n u).run P w.drew = .ok us w.drew := by
  cases u with
  | slice a l c =>
    cases a with
    | none =>
      have h : Result.ok #[] w = .ok us w := h
      injection h with h1
      subst h1
      rfl
    | some a =>
      have key : ∀ (n i : Nat) (acc us : Array Value), (loadCellsFrom a i n acc).run P w = .ok us w → (loadCellsFrom a i n acc).run P w.drew = .ok us w.drew := by
        intro n
        induction n with
        | zero =>
          intro i acc us h
          have h : Result.ok acc w = .ok us w := h
          injection h with h1
          subst h1
          rfl
        | succ n ih =>
          intro i acc us h
          simp only [loadCellsFrom, Sem.run_bind, run_load] at h ⊢
          have e : w.drew.cell? (a.add i) = w.cell? (a.add i) := rfl
          rw [e]
          cases hc : w.cell? (a.add i) with
          | some v =>
            rw [hc] at h
            exact ih _ _ _ h
          | none =>
            rw [hc] at h
            have e2 : w.drew.farLoad P (a.add i) (Mode.plain == Mode.atomic) = w.farLoad P (a.add i) (Mode.plain == Mode.atomic) := rfl
            rw [e2]
            cases hf : w.farLoad P (a.add i) (Mode.plain == Mode.atomic) with
            | error x => rw [hf] at h; cases h
            | ok v => rw [hf] at h; exact ih _ _ _ h
      exact key _ _ _ _ h
  | string s =>
    have h : Result.ok _ w = .ok us w := h
    injection h with h1
    subst h1
    rfl
  | _ => cases h
theorem grow_sound [Sig] {o : Oper} {args : Array Operand} {ats : Array TypeId} {t e : TypeId} {i : TypeInfo} {z : Value} (ho : o.op = .call { callee := .builtin .append, args, argTypes := ats }) (ht : ats[0]? = some t) (hu : P.underlying t = some (.slice e)) (hi : P.info? e = some i) (hzv : i.zero = some z) (hzn : z.cells.size = i.size) (hno : noInt P ats = true) (hby : i.bytes ≠ 0)
    {s x : Va} {us : List Sc} {len m : Nat} {H : Hp} {k : Va → Hp → Bool} (h : growK e i.size i.bytes len m s us H k = true) (hul : us.length = m * i.size)
    (hs : ∀ ι u, s.R ι u → ∃ a c, u = .slice a len c ∧ ¬ len + m ≤ c) (hx : ∀ ι w u, HR ι H w → x.R ι u → (Builtin.lenOf u).run P w = .ok m w ∧ ∃ cs : Array Value, (Builtin.firstCells i.size m u).run P w = .ok cs w ∧ RL (CR ι) us cs.toList) :
    ∃ r H', k r H' = true ∧ OpSound P o [s, x] H r H' := by
  have h : (fNat (Nat.add len m) fun n => andK (Nat.ble (Nat.mul (Nat.add (Nat.mul 2 n) 768) i.bytes) 281474976710656) (rowK i.size len s H fun olds => appL olds us fun l => newK e l H fun b H' => k (.s (.sl b 0 n i.size none)) H')) = true := h
  rw [fNat_eq] at h
  obtain ⟨h1, h2⟩ := andK_true h
  have hroom : (2 * (len + m) + 768) * i.bytes ≤ 2 ^ 48 := ble_true h1
  obtain ⟨olds, h3, hol, h4⟩ := rowK_true (P := P) h2
  have h5 := appL_true h3
  obtain ⟨H', h6, h7⟩ := newK_true h5
  refine ⟨_, H', h6, fun ι w ρ hv hH => ?_⟩
  rw [ops_builtin ho] at hv
  obtain ⟨a, b, e1, ha, hb⟩ := RL2 hv
  obtain ⟨base, c, e2, hc⟩ := hs ι _ ha
  obtain ⟨hl, cs, e3, e4⟩ := hx ι w _ hH hb
  obtain ⟨os, e5, e6⟩ := h4 ι w _ hH ha
  rw [e2] at e5
  obtain ⟨q, hq, hrun⟩ := append_grow (P := P) (ty := o.type) (ats := ats) ht hu hi hzv hno hby hl hc hroom (firstCells_drew e5) (firstCells_drew e3)
  have e7 : args.map ρ = #[.slice base len c, ρ b] := by
    apply Array.ext'
    rw [Array.toList_map, e1]
    simp [e2]
  have hosz := e6.length
  have hcsz := e4.length
  simp only [Array.length_toList] at hosz hcsz
  have hzc : (Builtin.zeroCells z.cells (q - (len + m))).size = (q - (len + m)) * i.size := by simp [Builtin.zeroCells, hzn]
  have hsize : (os ++ cs ++ Builtin.zeroCells z.cells (q - (len + m))).size = q * i.size := by
    rw [Array.size_append, Array.size_append, hzc, ← hosz, ← hcsz, hol, hul, ← Nat.add_mul, ← Nat.add_mul]
    congr 1
    omega
  obtain ⟨g1, g2⟩ := h7 ι w.drew (os ++ cs ++ Builtin.zeroCells z.cells (q - (len + m))) (0, 0) hH.drew (by simp; omega) (by
    have : (os ++ cs ++ Builtin.zeroCells z.cells (q - (len + m))).toList.take (olds ++ us).length = os.toList ++ cs.toList := by
      rw [Array.toList_append, Array.toList_append, List.take_append_of_le_length (by simp; omega)]
      rw [List.take_of_length_le (by simp; omega)]
    rw [this]
    exact e6.append e4) (fun _ _ => by simp)
  refine opTo_value (fun _ e => by rw [ho] at e; cases e) (w' := w.drew.alloc (.cells (os ++ cs ++ Builtin.zeroCells z.cells (q - (len + m))) e)) (v := .slice (some ⟨w.heap.size, 0, none⟩) (len + m) q) ?_ ⟨_, Ext.drew.trans g2, g1, _, q, Inj.more_same, rfl, hq, ?_, fun k' e => by cases e⟩
  · rw [exec_builtin ho, e7]
    simp only [builtin, Sem.run_bind, hrun]
    rfl
  · simp only [hsize]; omega
theorem move_sound [Sig] {o : Oper} {args : Array Operand} {ats : Array TypeId} {t e : TypeId} {i : TypeInfo} {z : Value} (ho : o.op = .call { callee := .builtin .append, args, argTypes := ats }) (ht : ats[0]? = some t) (hu : P.underlying t = some (.slice e)) (hi : P.info? e = some i) (hzv : i.zero = some z) (hzn : z.cells.size = i.size) (hno : noInt P ats = true) (hby : i.bytes ≠ 0)
    {x : Va} {us : List Sc} {b off len m : Nat} {cap : Option Nat} {H : Hp} {k : Va → Hp → Bool} (h : moveK e i.size i.bytes b off len m us H k = true) (hul : us.length = m * i.size)
    (hx : ∀ ι w u, HR ι H w → x.R ι u → (Builtin.lenOf u).run P w = .ok m w ∧ ∃ cs : Array Value, (Builtin.firstCells i.size m u).run P w = .ok cs w ∧ RL (CR ι) us cs.toList) :
    ∃ r H', k r H' = true ∧ OpSound P o [.s (.sl b off len i.size cap), x] H r H' := by
  have h : (fNat (Nat.add len m) fun n => andK (Nat.ble (Nat.mul (Nat.add (Nat.mul 2 n) 768) i.bytes) 281474976710656) (H.t.getK b fun o => asCells o fun l fz et => Bool.rec (dropL l off fun l' => takeL l' (Nat.mul len i.size) fun olds => appL olds us fun l2 =>
    H.t.setK none b fun t1 => t1.setK (some (.cells l2 false (etK e off et))) H.nx fun t2 => k (.s (.sl H.nx 0 n i.size none)) ⟨H.nx + 1, t2⟩) false fz)) = true := h
  rw [fNat_eq] at h
  obtain ⟨h1, h2⟩ := andK_true h
  have hroom : (2 * (len + m) + 768) * i.bytes ≤ 2 ^ 48 := ble_true h1
  obtain ⟨ob, h3, h4⟩ := Tr.getK_true h2
  obtain ⟨l, fz, et, rfl, h5⟩ := asCells_true h4
  cases fz with
  | true => cases h5
  | false =>
    obtain ⟨h6, h7⟩ := dropL_true (show dropL l off (fun l' => takeL l' (Nat.mul len i.size) fun olds => appL olds us fun l2 =>
      H.t.setK none b fun t1 => t1.setK (some (.cells l2 false (etK e off et))) H.nx fun t2 => k (.s (.sl H.nx 0 (Nat.add len m) i.size none)) ⟨H.nx + 1, t2⟩) = true from h5)
    obtain ⟨h8, h9⟩ := takeL_true h7
    have h8 : len * i.size ≤ (l.drop off).length := h8
    have h10 := appL_true h9
    obtain ⟨t1, h11, h12, h13⟩ := Tr.setK_true h10
    obtain ⟨t2, h14, h15, h16⟩ := Tr.setK_true h11
    have hnx : ∀ ι w, HR ι H w → b ≠ H.nx := fun ι w hH e' => by
      have := (hH.fresh H.nx (Nat.le_refl _)).2.2
      rw [← e', h3] at this
      cases this
    refine ⟨_, _, h14, fun ι w ρ hv hH => ?_⟩
    have hbn := hnx ι w hH
    rw [ops_builtin ho] at hv
    obtain ⟨a1, b1, e1, ha, hb⟩ := RL2 hv
    obtain ⟨y, c, hy, e2, hlc, hrm, _⟩ := ha
    obtain ⟨hl, cs, e3, e4⟩ := hx ι w _ hH hb
    obtain ⟨y', ca, el, f, g1, g2, g3, g4, g5, g6⟩ := hH.obj b _ h3
    rw [hy] at g1
    cases g1
    have e7 : args.map ρ = #[.slice (some ⟨y.block, y.base + off, none⟩) len c, ρ b1] := by
      apply Array.ext'
      rw [Array.toList_map, e1]
      simp [e2]
    have hnd : ∀ c, o.op ≠ .defer c := fun c e => by rw [ho] at e; cases e
    have hcsz := e4.length
    simp only [Array.length_toList] at hcsz
    have h8' : off + len * i.size ≤ l.length := by simp at h8; omega
    by_cases hcap : len + m ≤ c
    · -- it goes on where it was
      have hfit : off + (len + m) * i.size ≤ y.room := Nat.le_trans (Nat.add_le_add_left (Nat.mul_le_mul_right _ hcap) _) hrm
      rw [Nat.add_mul] at hfit
      obtain ⟨c', r1, r2, r3, r4⟩ := run_storeCells (P := P) cs.toList w y.block (y.base + off + len * i.size) 0 ca el f g2 (by simp; omega) (RL.cells e4) (g6 rfl)
      have hs : (storeCells ((⟨y.block, y.base + off, none⟩ : Addr).add (len * i.size)) cs.toList).run P w = .ok () (w.putObj y.block (.cells c' el f)) := by rw [Addr.add_lit]; exact r1
      have hrun := append_in (P := P) (ty := o.type) (base := some ⟨y.block, y.base + off, none⟩) ht hu hi hno hl hcap e3 (fun a e => by cases e; exact hs) (fun e => by cases e)
      obtain ⟨hH', hE'⟩ := hH.move h3 hy (base := y.base + off) (room := y.room - off) (t' := t2) (by rw [h16 b hbn]; exact h12) h15 (fun q q1 q2 => (h16 q q2).trans (h13 q q1)) (.cells c' el f) (by
        refine ⟨_, c', el, f, Inj.more_same, World.putObj_heap_same (hH.lt b y hy), ⟨by show y.base + off + (y.room - off) = c'.size; omega, fun t ht => by
          obtain ⟨d1, d2, d3⟩ := etK_some ht
          obtain ⟨d4, d5⟩ := g3.2 t d2
          exact ⟨d4, by show y.base + off = 0; omega⟩⟩, ?_, fun j v hj => ?_, fun _ q hq => g6 rfl q (by omega)⟩
        · show ((l.drop off).take (len * i.size) ++ us).length ≤ y.room - off
          rw [List.length_append, List.length_take]
          omega
        · have hle : ι.le (ι.more H.nx ⟨y.block, y.base + off, y.room - off⟩) := Inj.le_more (hH.fresh _ (Nat.le_refl _)).1
          have hj : ((l.drop off).take (len * i.size) ++ us)[j]? = some v := hj
          show ∃ u, c'[y.base + off + j]? = some u ∧ _
          by_cases hj1 : j < len * i.size
          · rw [List.getElem?_append, if_pos (by rw [List.length_take]; omega), List.getElem?_take, if_pos hj1, List.getElem?_drop] at hj
            obtain ⟨u, e8, e9⟩ := g5 _ _ hj
            refine ⟨u, ?_, e9.mono hle⟩
            rw [r4 _ (by omega), ← e8]
            congr 1
            omega
          · have hlt : ((l.drop off).take (len * i.size)).length = len * i.size := by rw [List.length_take]; omega
            rw [List.getElem?_append, if_neg (by omega), hlt] at hj
            obtain ⟨u, e8, e9⟩ := e4.get _ _ hj
            refine ⟨u, ?_, e9.mono hle⟩
            have := r3 _ u e8
            rw [← this]
            congr 1
            omega)
      refine opTo_value hnd (v := .slice (some ⟨y.block, y.base + off, none⟩) (len + m) c) ?_ ⟨_, hE', hH', _, c, Inj.more_same, rfl, hcap, by show 0 + c * i.size ≤ y.room - off; omega, fun k' e => by cases e⟩
      rw [exec_builtin ho, e7]
      simp only [builtin, Sem.run_bind, hrun]
      rfl
    · -- it is a new row
      have e5 : ∃ os : Array Value, (Builtin.firstCells i.size len (.slice (some ⟨y.block, y.base + off, none⟩) len c)).run P w = .ok os w ∧ RL (CR ι) ((l.drop off).take (len * i.size)) os.toList := by
        have hvs : ∀ j v, ((ca.toList.drop (y.base + off)).take (len * i.size))[j]? = some v → ca[y.base + off + j]? = some v := by
          intro j v hj
          rw [List.getElem?_take] at hj
          split at hj
          · simpa using hj
          · cases hj
        have hcl : ((ca.toList.drop (y.base + off)).take (len * i.size)).length = len * i.size := by simp; omega
        have hrun := run_loadCells' (P := P) g2 ((ca.toList.drop (y.base + off)).take (len * i.size)) hvs
        rw [hcl] at hrun
        refine ⟨_, hrun, RL.of_get (by rw [List.length_take]; simp; omega) fun j u v hu hv => ?_⟩
        rw [List.getElem?_take] at hu
        split at hu
        · rw [List.getElem?_drop] at hu
          obtain ⟨v', e8, e9⟩ := g5 _ _ hu
          have := hvs j v hv
          rw [Nat.add_assoc] at this
          rw [this] at e8
          cases e8
          exact e9
        · cases hu
      obtain ⟨os, e5, e6⟩ := e5
      obtain ⟨q, hq, hrun⟩ := append_grow (P := P) (ty := o.type) (ats := ats) ht hu hi hzv hno hby hl hcap hroom (firstCells_drew e5) (firstCells_drew e3)
      have hosz := e6.length
      rw [List.length_take] at hosz
      simp only [Array.length_toList] at hosz
      have hzc : (Builtin.zeroCells z.cells (q - (len + m))).size = (q - (len + m)) * i.size := by simp [Builtin.zeroCells, hzn]
      have hosz' : os.size = len * i.size := by omega
      have hsize : (os ++ cs ++ Builtin.zeroCells z.cells (q - (len + m))).size = q * i.size := by
        rw [Array.size_append, Array.size_append, hzc, ← hcsz, hosz', hul, ← Nat.add_mul, ← Nat.add_mul]
        congr 1
        omega
      obtain ⟨d1, d2⟩ := hH.drew.drop h12 h13
      have hlen2 : ((l.drop off).take (len * i.size) ++ us).length = os.size + cs.size := by rw [List.length_append, List.length_take]; omega
      obtain ⟨hH', hE'⟩ := d1.alloc (H := ⟨H.nx, t1⟩) (.cells (os ++ cs ++ Builtin.zeroCells z.cells (q - (len + m))) e) (q * i.size) h15 h16 (by
        refine ⟨_, _, e, (0, 0), Inj.more_same, World.alloc_heap_new _ _, ⟨by rw [hsize]; simp, fun t ht => ⟨(etK_some ht).2.2.symm, rfl⟩⟩, ?_, fun j v hj => ?_, fun _ q hq => by simp⟩
        · show ((l.drop off).take (len * i.size) ++ us).length ≤ q * i.size
          rw [hlen2, ← hsize]
          simp
        · have hle : ι.le (ι.more H.nx ⟨w.drew.heap.size, 0, q * i.size⟩) := Inj.le_more (hH.fresh _ (Nat.le_refl _)).1
          have hj : ((l.drop off).take (len * i.size) ++ us)[j]? = some v := hj
          obtain ⟨u, e8, e9⟩ := (e6.append e4).get j v hj
          refine ⟨u, ?_, e9.mono hle⟩
          have hjl : j < os.size + cs.size := by rw [← hlen2]; exact (List.getElem?_eq_some_iff.1 hj).1
          show (os ++ cs ++ Builtin.zeroCells z.cells (q - (len + m)))[0 + j]? = some u
          rw [Nat.zero_add, Array.getElem?_append, if_pos (by simp; omega), ← e8, ← Array.toList_append]
          exact Array.getElem?_toList.symm)
      refine opTo_value hnd (w' := w.drew.alloc (.cells (os ++ cs ++ Builtin.zeroCells z.cells (q - (len + m))) e)) (v := .slice (some ⟨w.heap.size, 0, none⟩) (len + m) q) ?_ ⟨_, (Ext.drew.trans d2).trans hE', hH', _, q, Inj.more_same, rfl, hq, by show 0 + q * i.size ≤ q * i.size; omega, fun k' e => by cases e⟩
      rw [exec_builtin ho, e7]
      simp only [builtin, Sem.run_bind, hrun]
      rfl
theorem appR_sound [Sig] {o : Oper} {args : Array Operand} {ats : Array TypeId} (ho : o.op = .call { callee := .builtin .append, args, argTypes := ats }) : CrSound P (appR P ats) o := by
  have hnd : ∀ c, o.op ≠ .defer c := fun c e => by rw [ho] at e; cases e
  unfold appR
  split
  case h_2 => exact badR_sound o
  rename_i t ht
  split
  case h_2 => exact badR_sound o
  rename_i e hu
  split
  case h_2 => exact badR_sound o
  rename_i i zl hi hz
  split
  case isFalse => exact badR_sound o
  rename_i hcond
  obtain ⟨hno, hby, hzl⟩ := hcond
  obtain ⟨i', z, hi', hzv, hzR⟩ := zeroOf_spec hz
  rw [hi] at hi'
  cases hi'
  have hzn : z.cells.size = i.size := by
    have := (hzR ⟨fun _ => none, fun _ => none⟩).length
    simp at this
    omega
  intro D vs H k _ h
  obtain ⟨s, x, rfl, h1⟩ := arg2_true h
  obtain ⟨m, h2, h3⟩ := lenK'_true h1
  obtain ⟨us, h4, hul, h5⟩ := rowK_true (P := P) h2
  have hx : ∀ ι w u, HR ι H w → x.R ι u → (Builtin.lenOf u).run P w = .ok m w ∧ ∃ cs : Array Value, (Builtin.firstCells i.size m u).run P w = .ok cs w ∧ RL (CR ι) us cs.toList :=
    fun ι w u hH hu' => ⟨lenOf_run (h3 ι u hu') w, h5 ι w u hH hu'⟩
  cases m with
  | zero =>
    obtain ⟨h6, h7⟩ := andK_true (show andK (isRow s) (k s H) = true from h4)
    refine ⟨s, H, h7, opSound_pure hnd fun ι w ρ hv hH => ?_⟩
    rw [ops_builtin ho] at hv
    obtain ⟨a1, b1, e1, ha, hb⟩ := RL2 hv
    obtain ⟨base, n, c, e2, hc⟩ := isRow_true h6 ι _ ha
    obtain ⟨hl, cs, e3, e4⟩ := hx ι w _ hH hb
    have hcs : cs.toList = [] := by
      have := e4.length
      rw [hul] at this
      exact List.eq_nil_of_length_eq_zero (by omega)
    have e7 : args.map ρ = #[.slice base n c, ρ b1] := by
      apply Array.ext'
      rw [Array.toList_map, e1]
      simp [e2]
    refine ⟨ρ a1, ?_, ha⟩
    have hrun := append_in (P := P) (ty := o.type) (base := base) (w' := w) ht hu hi hno hl (show n + 0 ≤ c from hc) e3 (fun a _ => by rw [hcs]; rfl) (fun _ => rfl)
    rw [exec_builtin ho, e7]
    simp only [builtin, Sem.run_bind, hrun]
    rw [e2]
    rfl
  | succ m =>
    obtain ⟨y, rfl, h6⟩ := asS_true (show asS s _ = true from h4)
    cases y with
    | sl b off len esz cap =>
      obtain ⟨h7, h8⟩ := andK_true (show andK (Nat.beq esz i.size) (Option.rec (moveK e i.size i.bytes b off len (Nat.succ m) us H k) (fun c => Bool.rec (growK e i.size i.bytes len (Nat.succ m) (.s (.sl b off len esz cap)) us H k) (overK b (Nat.add off (Nat.mul len i.size)) us H fun H' => fNat (Nat.add len (Nat.succ m)) fun n => k (.s (.sl b off n esz (some c))) H') (Nat.ble (Nat.add len (Nat.succ m)) c)) cap) = true from h6)
      obtain rfl := beq_true h7
      cases cap with
      | none => exact move_sound ho ht hu hi hzv hzn hno hby (show moveK e i.size i.bytes b off len (m + 1) us H k = true from h8) hul hx
      | some c =>
        have h8 : (Bool.rec (growK e i.size i.bytes len (Nat.succ m) (.s (.sl b off len i.size (some c))) us H k) (overK b (Nat.add off (Nat.mul len i.size)) us H fun H' => fNat (Nat.add len (Nat.succ m)) fun n => k (.s (.sl b off n i.size (some c))) H') (Nat.ble (Nat.add len (Nat.succ m)) c) : Bool) = true := h8
        cases hb : Nat.ble (Nat.add len (Nat.succ m)) c with
        | false =>
          rw [hb] at h8
          refine grow_sound ho ht hu hi hzv hzn hno hby (show growK e i.size i.bytes len (m + 1) _ us H k = true from h8) hul (fun ι u hu' => ?_) hx
          obtain ⟨y, c', _, e2, _, _, hk⟩ := hu'
          refine ⟨_, c', e2, fun hh => ?_⟩
          rw [hk c rfl] at hh
          have : Nat.ble (Nat.add len (Nat.succ m)) c = true := Nat.ble_eq_true_of_le hh
          rw [hb] at this
          cases this
        | true =>
          rw [hb] at h8
          have hcap : len + (m + 1) ≤ c := ble_true hb
          obtain ⟨H', h9, h10⟩ := overK_true (P := P) h8
          rw [fNat_eq] at h9
          refine ⟨_, H', h9, fun ι w ρ hv hH => ?_⟩
          rw [ops_builtin ho] at hv
          obtain ⟨a1, b1, e1, ha, hb1⟩ := RL2 hv
          obtain ⟨y, c', hy, e2, hlc, hrm, hk⟩ := ha
          obtain rfl := hk c rfl
          obtain ⟨hl, cs, e3, e4⟩ := hx ι w _ hH hb1
          obtain ⟨w', e5, e6, e7'⟩ := h10 ι w y cs.toList hH hy e4
          have e5 : (storeCells ((⟨y.block, y.base + off, none⟩ : Addr).add (len * i.size)) cs.toList).run P w = .ok () w' := by rw [Addr.add_lit, Nat.add_assoc]; exact e5
          have hrun := append_in (P := P) (ty := o.type) (base := some ⟨y.block, y.base + off, none⟩) (w' := w') ht hu hi hno hl hcap e3 (fun a e => by cases e; exact e5) (fun e => by cases e)
          have e7 : args.map ρ = #[.slice (some ⟨y.block, y.base + off, none⟩) len c', ρ b1] := by
            apply Array.ext'
            rw [Array.toList_map, e1]
            simp [e2]
          refine opTo_value hnd (w' := w') (v := .slice (some ⟨y.block, y.base + off, none⟩) (len + (m + 1)) c') ?_ ⟨ι, e6, e7', y, c', hy, rfl, hcap, hrm, hk⟩
          rw [exec_builtin ho, e7]
          simp only [builtin, Sem.run_bind, hrun]
          rfl
    | oth ot =>
      cases ot with
      | nils =>
        refine grow_sound ho ht hu hi hzv hzn hno hby (show growK e i.size i.bytes 0 (m + 1) _ us H k = true from h6) hul (fun ι u hu' => ⟨none, 0, hu', by omega⟩) hx
      | _ => cases h6
    | _ => cases h6
end
end Go.Proofs.YtmdciljpcnokcaaGreatDoor.Ex
/-
  A run of closed code by the kernel: texts out of rows of bytes and back, rows made, maps.
-/
namespace Go.Proofs.YtmdciljpcnokcaaGreatDoor.Ex
section
variable {P : Program}
/-! ### Bytes as a text -/
noncomputable def b2sR : Cr := ⟨fun _ vs H k => arg1 vs fun x => asS x fun y => Sc.rec (fun _ _ => false) (fun _ _ => false) (fun _ _ => false) (fun _ => false)
  (fun _ _ len _ _ => rowK 1 len x H fun l => strOf l fun m s => k (.s (.str m s)) H) (fun o => Ot.rec false false false (k (.s (.str 0 0)) H) false false (fun _ => false) (fun _ _ => false) (fun _ => false) (fun _ => false) false (fun _ => false) o) y⟩
theorem push_foldl : ∀ (l : List UInt8) (s : ByteArray), (l.map fun b => (b.toNat : Int)).foldl (fun r n => r.push (UInt8.ofNat n.toNat)) s = ⟨(s.data.toList ++ l).toArray⟩
  | [], s => by simp
  | b :: l, s => by
    simp only [List.map_cons, List.foldl_cons]
    rw [push_foldl l]
    congr 1
    have : (s.push (UInt8.ofNat ((b.toNat : Int)).toNat)).data = s.data.push b := by simp [ByteArray.push]
    rw [this]
    simp
theorem b2sR_sound [Sig] {o : Oper} {src dst e : TypeId} {x : Operand} (ho : o.op = .convert src dst x) (hs : P.underlying src = some (.slice e)) (he : P.underlying e = some (.int .u8)) (hd : P.underlying dst = some .string) : CrSound P b2sR o := by
  intro D vs H k _ h
  obtain ⟨u, rfl, h1⟩ := arg1_true h
  obtain ⟨y, rfl, h2⟩ := asS_true h1
  have hnd : ∀ c, o.op ≠ .defer c := fun c e => by rw [ho] at e; cases e
  cases y with
  | sl b off len esz cap =>
    obtain ⟨l, h3, hl, h4⟩ := rowK_true (P := P) (show rowK 1 len (.s (.sl b off len esz cap)) H (fun l => strOf l fun m s => k (.s (.str m s)) H) = true from h2)
    obtain ⟨m, s, h7, h8, h9, h10⟩ := strOf_true h3
    refine ⟨_, H, h7, one_pure (by rw [ho]; rfl) hnd fun ι w ρ hH hu => ?_⟩
    obtain ⟨us, e1, e2⟩ := h4 ι w _ hH hu
    obtain ⟨y, c, hy, e3, _⟩ := hu
    have e4 := h10 ι _ e2
    rw [e3] at e1
    have e5 : (loadCells ⟨y.block, y.base + off, none⟩ len).run P w = .ok (((bytesOf m s).map fun b => (b.toNat : Int)).map (Value.int .u8)).toArray w := by
      have : us = (((bytesOf m s).map fun b => (b.toNat : Int)).map (Value.int .u8)).toArray := by
        apply Array.ext'
        rw [e4]
        simp
      rw [← this]
      simpa [Builtin.firstCells] using e1
    have e6 := run_bytesToString (P := P) w ⟨y.block, y.base + off, none⟩ len c _ e5
    rw [push_foldl] at e6
    refine ⟨.string ⟨(bytesOf m s).toArray⟩, ?_, _, rfl, by simp, h9⟩
    simp only [execOp, ho, e3]
    rw [Sem.run_bind, run_convert_bytes_string w src dst e _ _ _ hs he hd, e6]
    rfl
  | oth ot =>
    cases ot with
    | nils =>
      refine ⟨_, H, h2, one_pure (by rw [ho]; rfl) hnd fun ι w ρ hH hu => ⟨.string .empty, ?_, _, rfl, by exact ⟨rfl, by decide⟩⟩⟩
      have hu : ρ x = .slice none 0 0 := hu
      simp only [execOp, ho, hu]
      rw [Sem.run_bind, run_convert_bytes_string w src dst e none 0 0 hs he hd]
      rfl
    | _ => cases h2
  | _ => cases h2
/-! ### A text as bytes -/
noncomputable def s2bR (e : Nat) : Cr := ⟨fun _ vs H k => arg1 vs fun x => asStr x fun n s => ofStr n s fun l => newK e l H fun b H' => k (.s (.sl b 0 n 1 none)) H'⟩
theorem s2bR_sound [Sig] {o : Oper} {src dst e : TypeId} {x : Operand} (ho : o.op = .convert src dst x) (hs : P.underlying src = some .string) (hd : P.underlying dst = some (.slice e)) (he : P.underlying e = some (.int .u8)) : CrSound P (s2bR e) o := by
  intro D vs H k _ h
  obtain ⟨u, rfl, h1⟩ := arg1_true h
  obtain ⟨n, s, rfl, h2⟩ := asStr_true h1
  obtain ⟨l, h3, hl, h4⟩ := ofStr_true h2
  obtain ⟨H', h5, h6⟩ := newK_true h3
  refine ⟨_, H', h5, fun ι w ρ hv hH => ?_⟩
  have e0 : o.op.operands.toList = [x] := by rw [ho]; rfl
  rw [e0] at hv
  obtain ⟨⟨b, e1, hb⟩, _⟩ := hv
  have hbsz := hb.size
  obtain ⟨q, hq⟩ : ∃ q, q = (Question.appendCap b.size 0 e).cut (w.tape w.drawn (.appendCap b.size 0 e)) := ⟨_, rfl⟩
  have hqn : n ≤ q := by rw [hq, hbsz]; simp [Question.cut]
  let C : Array Value := (b.data.map fun b => .int .u8 b.toNat) ++ Array.replicate (q - b.size) (.int .u8 0)
  have hCs : C.size = q := by
    have : b.data.size = n := hbsz
    simp [C, hbsz]
    omega
  have hrun : (convert src dst (.string b)).run P w = .ok (.slice (some ⟨w.heap.size, 0, none⟩) n q) (w.drew.alloc (.cells C e (q, q + 1))) := by
    have hfr : ∀ (a : Array Obj) (x : Obj) (f : Obj → Obj), (a.push x).modify a.size f = a.push (f x) := by
      intro a x f
      apply Array.ext
      · simp
      · intro i h1 h2
        simp only [Array.getElem_modify, Array.getElem_push]
        by_cases h : a.size = i
        · subst h
          simp
        · have hi : i < a.size := by simp at h1; omega
          simp [h, hi]
    have hsh : ∀ C : Array Value, (w.drew.alloc (.cells C e)).shape? w.heap.size = some (e, C.size) := fun C => by
      have : (w.drew.alloc (.cells C e)).heap[w.heap.size]? = some (.cells C e) := World.alloc_heap_new w.drew _
      unfold World.shape?
      rw [this]
    have hfz : (w.drew.alloc (.cells C e)).freeze ⟨w.heap.size, C.size, none⟩ 1 = w.drew.alloc (.cells C e (C.size, C.size + 1)) := by
      unfold World.freeze
      rw [if_neg (by decide)]
      show ({ w.drew.alloc (.cells C e) with heap := (w.heap.push (.cells C e)).modify w.heap.size _ } : World) = _
      rw [hfr]
      rfl
    have hb' : b.size = n := hbsz
    have e2 : (Conv.stringToBytes e b).run P w = .ok (.slice (some ⟨w.heap.size, 0, none⟩) n q) (w.drew.alloc (.cells C e (q, q + 1))) := by
      unfold Conv.stringToBytes
      have hch : (choose (.appendCap b.size 0 e)).run P w = .ok q w.drew := by rw [hq]; rfl
      rw [Sem.run_bind, hch, Result.andThen_ok, Sem.run_bind]
      have hn : (newRow e ((b.data.map fun b => Value.int .u8 b.toNat) ++ Array.replicate (q - b.size) (.int .u8 0))).run P w.drew = .ok ⟨w.heap.size, 0, none⟩ (w.drew.alloc (.cells C e)) := rfl
      rw [hn, Result.andThen_ok, Sem.run_bind]
      have hm : (markStringish ⟨w.heap.size, 0, none⟩).run P (w.drew.alloc (.cells C e)) = .ok () (w.drew.alloc (.cells C e (q, q + 1))) := by
        unfold markStringish
        rw [Sem.run_bind]
        have : (shape (⟨w.heap.size, 0, none⟩ : Addr).block).run P (w.drew.alloc (.cells C e)) = .ok (some (e, C.size)) (w.drew.alloc (.cells C e)) := by
          show Result.ok ((w.drew.alloc (.cells C e)).shape? w.heap.size) _ = _
          rw [hsh]
        rw [this, Result.andThen_ok]
        show Result.ok () ((w.drew.alloc (.cells C e)).freeze ⟨w.heap.size, C.size, none⟩ 1) = _
        rw [hfz, hCs]
      rw [hm, Result.andThen_ok, hb']
      rfl
    simp [convert, run_underlying hs, run_underlying hd, run_underlying he, e2]
  have hR := h4 ι
  have htk : C.toList.take l.length = (bytesOf n s).map fun b => .int .u8 b.toNat := by
    have hd : b.data.toList = bytesOf n s := hb.1
    have : C.toList = ((bytesOf n s).map fun b => Value.int .u8 b.toNat) ++ List.replicate (q - b.size) (.int .u8 0) := by simp [C, hd]
    rw [this, List.take_append_of_le_length (by simp [bytesOf_length, hl]), List.take_of_length_le (by simp [bytesOf_length, hl])]
  obtain ⟨g1, g2⟩ := h6 ι w.drew C (q, q + 1) hH.drew (by omega) (by rw [htk]; exact hR) (fun i hi => by rw [hCs] at hi; simp; omega)
  refine opTo_value (fun _ e => by rw [ho] at e; cases e) (w' := w.drew.alloc (.cells C e (q, q + 1))) (v := .slice (some ⟨w.heap.size, 0, none⟩) n q) ?_ ⟨_, Ext.drew.trans g2, g1, _, q, Inj.more_same, rfl, hqn, by show 0 + q * 1 ≤ C.size; omega, fun k' e => by cases e⟩
  simp only [execOp, ho, e1]
  rw [Sem.run_bind, hrun]
  rfl
/-! ### Conversions -/
noncomputable def cnvR (P : Program) (src dst : TypeId) : Cr :=
  match P.underlying src, P.underlying dst with
  | some _, some (.int k) => cnvI (kN k)
  | some .string, some .string => strId
  | some (.slice e), some .string => match P.underlying e with
    | some (.int .u8) => b2sR
    | _ => badR
  | some .string, some (.slice e) => match P.underlying e with
    | some (.int .u8) => s2bR e
    | _ => badR
  | _, _ => badR
theorem cnvR_sound [Sig] {o : Oper} {src dst : TypeId} {x : Operand} (ho : o.op = .convert src dst x) : CrSound P (cnvR P src dst) o := by
  unfold cnvR
  split
  · rename_i h1 h2
    exact cnvI_sound ho (by rw [h1]; rfl) h2
  · rename_i h1 h2
    exact strId_sound ho h1 h2
  · rename_i h1 h2
    split
    · exact b2sR_sound ho h1 (by assumption) h2
    · exact badR_sound o
  · rename_i h1 h2
    split
    · exact s2bR_sound ho h1 h2 (by assumption)
    · exact badR_sound o
  · exact badR_sound o
end
end Go.Proofs.YtmdciljpcnokcaaGreatDoor.Ex
/-
  A run of closed code by the kernel: rows made, maps by numbers.
-/
namespace Go.Proofs.YtmdciljpcnokcaaGreatDoor.Ex
section
variable {P : Program}
/-! ### Rows -/
noncomputable def repK (z : List Sc) (n : Nat) : (List Sc → Bool) → Bool := Nat.rec (fun k => k []) (fun _ ih k => ih fun l => appL z l k) n
theorem repK_true [Sig] {z : List Sc} : ∀ {n : Nat} {k : List Sc → Bool}, repK z n k = true → k (List.replicate n z).flatten = true
  | 0, _, h => h
  | n + 1, k, h => by
    have := appL_true (repK_true (show repK z n (fun l => appL z l k) = true from h))
    simpa [List.replicate_succ] using this
theorem flat_get {α : Type} (z : List α) : ∀ (n i : Nat), i < n * z.length → ((List.replicate n z).flatten)[i]? = z[i % z.length]?
  | 0, i, h => by omega
  | n + 1, i, h => by
    rw [List.replicate_succ, List.flatten_cons, List.getElem?_append]
    by_cases hi : i < z.length
    · rw [if_pos hi, Nat.mod_eq_of_lt hi]
    · rw [if_neg hi, flat_get z n (i - z.length) (by rw [Nat.add_mul] at h; omega)]
      congr 1
      exact (Nat.mod_eq_sub_mod (by omega)).symm
theorem flat_len {α : Type} (z : List α) (n : Nat) : ((List.replicate n z).flatten).length = n * z.length := by simp
theorem made_R [Sig] {ι : Inj} {z : List Sc} {c : Array Value} (h : RL (CR ι) z c.toList) (n : Nat) : RL (CR ι) (List.replicate n z).flatten (madeCells c (n * c.size)).toList := by
  have hl : z.length = c.size := by simpa using h.length
  refine RL.of_get (by rw [flat_len, hl]; simp [size_madeCells]) fun i x v hx hv => ?_
  have hi : i < n * z.length := by
    have := (List.getElem?_eq_some_iff.1 hx).1
    rwa [flat_len] at this
  rw [flat_get z n i hi] at hx
  obtain ⟨u, e1, e2⟩ := h.get _ x hx
  have e3 : (madeCells c (n * c.size))[i]? = some (c[i % c.size]!) := by
    unfold madeCells
    rw [hl] at hi
    simp [hi]
  have hv : (madeCells c (n * c.size))[i]? = some v := by simpa using hv
  rw [e3] at hv
  cases hv
  rw [hl] at e1
  have e1 : c[i % c.size]? = some u := by simpa using e1
  have : c[i % c.size]! = u := by
    rw [Array.getElem!_eq_getD, Array.getD_eq_getD_getElem?, e1]
    rfl
  rw [this]
  exact e2
noncomputable def mkslR (P : Program) (t : TypeId) : Cr :=
  match P.underlying t with
  | some (.slice e) => match P.info? e, zeroOf P e with
    | some i, some z => if z.length = i.size then ⟨fun _ vs H k => arg2 vs fun x y => asI x fun _ l => asI y fun _ c => asNat l fun l => asNat c fun c => andK (Nat.ble l c) (andK (Nat.ble (Nat.mul i.bytes c) 281474976710656) (andK (Nat.ble c 4611686018427387904) (repK z c fun cs => newK e cs H fun b H' => k (.s (.sl b 0 l i.size (some c))) H')))⟩ else badR
    | _, _ => badR
  | _ => badR
theorem mkslR_sound [Sig] {o : Oper} {t : TypeId} {x y : Operand} (ho : o.op = .makeSlice t x y) : CrSound P (mkslR P t) o := by
  unfold mkslR
  split
  case h_2 => exact badR_sound o
  rename_i e hu
  split
  case h_2 => exact badR_sound o
  rename_i i zl hi hz
  split
  case isFalse => exact badR_sound o
  rename_i hzl
  obtain ⟨i', z, hi', hzv, hzR⟩ := zeroOf_spec hz
  rw [hi] at hi'
  cases hi'
  intro D vs H k _ h
  obtain ⟨u, v, rfl, h1⟩ := arg2_true h
  obtain ⟨kl, l, rfl, h2⟩ := asI_true h1
  obtain ⟨kc, c, rfl, h3⟩ := asI_true h2
  obtain ⟨l, rfl, h4⟩ := asNat_true h3
  obtain ⟨c, rfl, h5⟩ := asNat_true h4
  obtain ⟨h6, h7⟩ := andK_true h5
  obtain ⟨h8, h9⟩ := andK_true h7
  obtain ⟨h10, h11⟩ := andK_true h9
  have h12 := repK_true h11
  obtain ⟨H', h13, h14⟩ := newK_true h12
  have hlc := ble_true h6
  have hby : i.bytes * c ≤ 281474976710656 := ble_true h8
  have hcm := ble_true h10
  refine ⟨_, H', h13, fun ι w ρ hv hH => ?_⟩
  have e0 : o.op.operands.toList = [x, y] := by rw [ho]; rfl
  rw [e0] at hv
  have e1 : ρ x = .int (kOf kl) (Int.ofNat l) := hv.1
  have e2 : ρ y = .int (kOf kc) (Int.ofNat c) := hv.2.1
  have hzs : z.cells.size = i.size := by have := (hzR ι).length; simp at this; omega
  have hb' : (i.bytes : Int) * (Int.ofNat c) ≤ 281474976710656 := by
    have := Int.ofNat_le.2 hby
    simpa using this
  have hrun := run_make (P := P) w t e i z hu hi hzv (kOf kl) (kOf kc) (Int.ofNat l) (Int.ofNat c) (Int.natCast_nonneg l) (Int.ofNat_le.2 hlc) hb' (by have := Int.ofNat_le.2 hcm; simp at this ⊢; omega)
  have hR := made_R (hzR ι) c
  obtain ⟨g1, g2⟩ := h14 ι w (madeCells z.cells (c * i.size)) (0, 0) hH (by rw [size_madeCells, flat_len, hzl]; exact Nat.le_refl _) (by
    rw [flat_len, hzl, List.take_of_length_le (by rw [Array.length_toList, size_madeCells]; exact Nat.le_refl _)]
    rw [← hzs]
    exact hR) (fun i _ => by simp)
  refine opTo_value (fun _ e => by rw [ho] at e; cases e) (v := .slice (some ⟨w.heap.size, 0, none⟩) l c) ?_ ⟨_, g2, g1, _, c, Inj.more_same, rfl, hlc, by show 0 + c * i.size ≤ (madeCells z.cells (c * i.size)).size; rw [size_madeCells]; omega, fun k' e => by cases e; rfl⟩
  simp only [execOp, ho, e1, e2]
  rw [Sem.run_bind, hrun]
  rfl
/-- a cell that tells of no block -/
noncomputable def plainS (x : Sc) : Bool := Sc.rec (fun _ _ => true) (fun _ _ => true) (fun _ _ => false) (fun _ => true) (fun _ _ _ _ _ => false) (fun o => Ot.rec false false false false false false (fun _ => false) (fun _ _ => false) (fun _ => false) (fun _ => false) false (fun _ => true) o) x
theorem plainS_R [Sig] {x : Sc} (h : plainS x = true) {ι ι' : Inj} {v : Value} (hv : CR ι x v) : CR ι' x v := by
  cases x with
  | oth o => cases o <;> first | exact hv | (cases h; done)
  | _ => first | exact hv | (cases h; done)
noncomputable def plainL (l : List Sc) : Bool := List.rec true (fun x _ ih => andK (plainS x) ih) l
theorem plainL_R [Sig] {ι ι' : Inj} : ∀ {l : List Sc} {c : List Value}, plainL l = true → RL (CR ι) l c → RL (CR ι') l c
  | [], [], _, _ => trivial
  | [], _ :: _, _, h => h.elim
  | _ :: _, [], _, h => h.elim
  | x :: l, v :: c, h, hv => by
    obtain ⟨h1, h2⟩ := andK_true (show andK (plainS x) (plainL l) = true from h)
    exact ⟨plainS_R h1 hv.1, plainL_R h2 hv.2⟩
noncomputable def plK (b : Bool) (l : List Sc) (c : Bool) : Bool := Bool.rec c (andK (plainL l) c) b
theorem plK_true [Sig] {b : Bool} {l : List Sc} {c : Bool} (h : plK b l c = true) : c = true := by
  cases b with
  | false => exact h
  | true => exact (andK_true (show andK (plainL l) c = true from h)).2
def plainE (P : Program) (e : TypeId) : Bool := match P.underlying e with
  | some .string => true
  | some .bool => true
  | some (.int _) => true
  | _ => false
noncomputable def bslR (P : Program) (t : TypeId) (len : Nat) (is : List Nat) : Cr :=
  match P.underlying t with
  | some (.slice e) => match P.info? e, zeroOf P e with
    | some i, some z => if z.length = i.size ∧ len * i.size ≤ 2 ^ 24 then ⟨fun _ vs H k => repK z len fun l0 => fillK (is.map fun j => (j * i.size, i.size)) vs l0 fun l => plK (plainE P e) l (newK e l H fun b H' => k (.s (.sl b 0 len i.size (some len))) H')⟩ else badR
    | _, _ => badR
  | _ => badR
theorem zip_parts (ρ : Operand → Value) : ∀ l : List (Nat × Operand), (l.map (·.1)).zip (l.map fun p => ρ p.2) = l.map fun (i, x) => (i, ρ x)
  | [] => rfl
  | p :: l => by simp [zip_parts ρ l]
theorem bsl_exec [Sig] {o : Oper} {t : TypeId} {len : Nat} {parts : Array (Nat × Operand)} (ho : o.op = .buildSlice t len parts) {ρ : Operand → Value} {w : World} {e : TypeId} {i : TypeInfo} {z : Value} {cells' : Array Value} (hu : P.underlying t = some (.slice e))
    (hi : P.info? e = some i) (hzv : i.zero = some z) (hlim : len * i.size ≤ 2 ^ 24) (e1 : Instr.fill (fun j => some (j * i.size, i.size)) (madeCells z.cells (len * i.size)) ((parts.toList.map (·.1)).zip (parts.toList.map fun p => ρ p.2)) = some cells') :
    (execOp ρ o).run P w = .ok (.value (.slice (some ⟨w.heap.size, 0, none⟩) len len)) (w.alloc (.cells cells' e)) := by
  rw [zip_parts] at e1
  have e3 : (parts.map fun (i, x) => (i, ρ x)).toList = parts.toList.map fun (i, x) => (i, ρ x) := by simp
  rw [← e3] at e1
  have hbig : ¬ len * i.size > 2 ^ 24 := by omega
  have hbig' : ¬ 2 ^ 24 < len * i.size := hbig
  have hrun : (Instr.buildSlice t len (parts.map fun (i, x) => (i, ρ x))).run P w = .ok (.slice (some ⟨w.heap.size, 0, none⟩) len len) (w.alloc (.cells cells' e)) := by
    unfold Instr.buildSlice
    rw [Sem.run_bind, run_underlying hu, Result.andThen_ok]
    simp only []
    rw [Sem.run_bind, show (sizeOf e).run P w = .ok i.size w by simp [sizeOf, typeInfo, hi], Result.andThen_ok]
    rw [if_neg hbig]
    by_cases h0 : len * i.size = 0
    · rw [if_pos h0]
      have e4 : (Array.range (len * i.size)).map ((#[] : Array Value)[· % (#[] : Array Value).size]!) = madeCells z.cells (len * i.size) := by
        rw [h0]
        simp [madeCells]
      simp only [pure_bind]
      rw [e4, e1]
      rfl
    · rw [if_neg h0]
      have hzr : (zeroValue e).run P w = .ok z w := by simp [zeroValue, typeInfo, hi, hzv]
      simp only [bind_pure_comp]
      simp only [map_eq_pure_bind, Sem.run_bind, hzr, Result.andThen_ok, Sem.run_pure]
      have e5 : (Array.map (fun x => z.cells[x % z.cells.size]!) (Array.range (len * i.size))) = madeCells z.cells (len * i.size) := rfl
      have e6 : (Array.map (fun x : Nat × Operand => (x.fst, ρ x.snd)) parts) = parts.map fun (i, x) => (i, ρ x) := rfl
      rw [e5, e6, e1]
      rfl
  simp only [execOp, ho]
  rw [Sem.run_bind, hrun]
  rfl
theorem bslR_sound [Sig] {o : Oper} {t : TypeId} {len : Nat} {parts : Array (Nat × Operand)} (ho : o.op = .buildSlice t len parts) : CrSound P (bslR P t len (parts.toList.map (·.1))) o := by
  unfold bslR
  split
  case h_2 => exact badR_sound o
  rename_i e hu
  split
  case h_2 => exact badR_sound o
  rename_i i zl hi hz
  split
  case isFalse => exact badR_sound o
  rename_i hc
  obtain ⟨hzl, hlim⟩ := hc
  obtain ⟨i', z, hi', hzv, hzR⟩ := zeroOf_spec hz
  rw [hi] at hi'
  cases hi'
  intro D vs H k _ h
  have h1 := repK_true h
  obtain ⟨l, h2, hll, h3⟩ := fillK_true (fun j => some (j * i.size, i.size)) h1
  obtain ⟨H', h4, h5⟩ := newK_true (plK_true h2)
  refine ⟨_, H', h4, fun ι w ρ hv hH => ?_⟩
  have e0 : o.op.operands.toList = parts.toList.map (·.2) := by rw [ho]; simp [Op.operands]
  rw [e0] at hv
  have hu' : RL (Va.R ι) vs (parts.toList.map fun p => ρ p.2) := by
    have : parts.toList.map (fun p => ρ p.2) = (parts.toList.map (·.2)).map ρ := by simp
    rw [this]
    exact RL_map_right hv
  have hzs : z.cells.size = i.size := by have := (hzR ι).length; simp at this; omega
  have hR := made_R (hzR ι) len
  rw [hzs] at hR
  obtain ⟨cells', e1, e2⟩ := h3 ι _ (parts.toList.map (·.1)) (madeCells z.cells (len * i.size)) (by simp) hu' hR
  have hcl : l.length = cells'.size := by simpa using e2.length
  obtain ⟨g1, g2⟩ := h5 ι w cells' (0, 0) hH (by omega) (by rw [List.take_of_length_le (by simp; omega)]; exact e2) (fun i _ => by simp)
  have hsz : len * i.size ≤ cells'.size := by rw [← hcl, hll, flat_len, hzl]; exact Nat.le_refl _
  refine opTo_value (fun _ e => by rw [ho] at e; cases e) (w' := w.alloc (.cells cells' e)) (v := .slice (some ⟨w.heap.size, 0, none⟩) len len) ?_ ⟨_, g2, g1, _, len, Inj.more_same, rfl, Nat.le_refl _, by show 0 + len * i.size ≤ cells'.size; omega, fun k' e => by cases e; rfl⟩
  exact bsl_exec ho hu hi hzv hlim e1
end
end Go.Proofs.YtmdciljpcnokcaaGreatDoor.Ex
/-
  A run of closed code by the kernel: structs and arrays compared.
-/
namespace Go.Proofs.YtmdciljpcnokcaaGreatDoor.Ex
section
variable {P : Program}
/-- the bytes of a text that are all known -/
def bytesP : Nat → Nat → List UInt8
  | 0, _ => []
  | l + 1, n => UInt8.ofNat (n % 65536) :: bytesP l (n / 65536)
theorem bytesP_eq [Sig] : ∀ {l n : Nat}, concN l n = true → bytesOf l n = bytesP l n
  | 0, _, _ => rfl
  | l + 1, n, h => by
    obtain ⟨h1, h2⟩ := concN_succ h
    simp only [bytesOf, bytesP]
    rw [dgt_lt h1, bytesP_eq h2]
noncomputable def valOf : Sc → Option Value
  | .int k n => some (.int (kOf k) n)
  | .bool b => some (.bool b)
  | .str l n => bif concN l n then some (.string ⟨(bytesP l n).toArray⟩) else none
  | _ => none
noncomputable def valsOf : List Sc → Option (List Value)
  | [] => some []
  | x :: l => match valOf x, valsOf l with
    | some v, some vs => some (v :: vs)
    | _, _ => none
theorem valOf_R [Sig] {x : Sc} {v : Value} (h : valOf x = some v) {ι : Inj} {u : Value} (hu : x.R ι u) : u = v := by
  cases x with
  | int k n => cases h; exact hu
  | bool b => cases h; exact hu
  | str l n =>
    have h : (bif concN l n then some (Value.string ⟨(bytesP l n).toArray⟩) else none) = some v := h
    cases hc : concN l n with
    | false => rw [hc] at h; cases h
    | true =>
      rw [hc] at h
      cases h
      obtain ⟨s, rfl, hs⟩ := hu
      have : s.data = (bytesP l n).toArray := by rw [← bytesP_eq hc, ← hs.1]
      rw [← this]
  | _ => cases h
theorem valsOf_R [Sig] : ∀ {l : List Sc} {vs : List Value}, valsOf l = some vs → ∀ {ι : Inj} {us : List Value}, RL (CR ι) l us → us = vs
  | [], vs, h, ι, us, hu => by
    cases h
    cases us with
    | nil => rfl
    | cons => exact hu.elim
  | x :: l, vs, h, ι, us, hu => by
    unfold valsOf at h
    split at h
    · rename_i v ws h1 h2
      cases h
      cases us with
      | nil => exact hu.elim
      | cons u us => rw [valOf_R h1 hu.1.1, valsOf_R h2 hu.2]
    · cases h
def litEq : Lit → Lit → Option Bool
  | .bool a, .bool b => some (a == b)
  | .int k n, .int k' m => some (decide (k = k') && n == m)
  | .string s, .string t => some (s == t)
  | _, _ => none
theorem litEq_spec {a b : Lit} {r : Bool} (h : litEq a b = some r) : r = true ↔ a = b := by
  unfold litEq at h
  split at h
  · cases h; simp
  · cases h; simp
  · cases h; simp
  · cases h
def litsEq : List Lit → List Lit → Option Bool
  | [], [] => some true
  | a :: as, b :: bs => match litEq a b, litsEq as bs with
    | some r, some q => some (r && q)
    | _, _ => none
  | _, _ => none
theorem litsEq_spec [Sig] : ∀ {a b : List Lit} {r : Bool}, litsEq a b = some r → (r = true ↔ a = b)
  | [], [], r, h => by cases h; simp
  | [], _ :: _, r, h => by cases h
  | _ :: _, [], r, h => by cases h
  | a :: as, b :: bs, r, h => by
    unfold litsEq at h
    split at h
    · rename_i r' q h1 h2
      cases h
      rw [Bool.and_eq_true, litEq_spec h1, litsEq_spec h2]
      simp
    · cases h
noncomputable def litsOf (P : Program) (t : TypeId) (l : List Sc) : Option (List Lit) := (valsOf l).bind (P.keyLits 12 t)
def plainB (P : Program) (t : TypeId) : Bool := P.keyTypeAt 12 t && (!P.eqGuardType P.depth t && match P.underlying t with
  | some (.struct _) => true
  | some (.array _ _) => true
  | _ => false)
noncomputable def eqTwo (P : Program) (t : TypeId) (l m : List Sc) : Option Bool := (litsOf P t l).bind fun a => (litsOf P t m).bind fun b => litsEq a b
noncomputable def eqaR (P : Program) (t : TypeId) (pos : Bool) : Cr :=
  Bool.rec badR ⟨fun _ vs H k => arg2 vs fun x y => asG x fun l => asG y fun m => andK (Nat.beq l.length (P.cellsOf t)) (andK (Nat.beq m.length (P.cellsOf t))
    (optB (eqTwo P t l m) fun r => boolR (Bool.rec (notB r) r pos) H k))⟩ (plainB P t)
theorem eqa_run [Sig] {t : TypeId} (hp : plainB P t = true) {l m : List Sc} {r : Bool} (hl : l.length = P.cellsOf t) (hm : m.length = P.cellsOf t) (he : eqTwo P t l m = some r) {ι : Inj} {w : World} {cs ds : Array Value}
    (hc : RL (CR ι) l cs.toList) (hd : RL (CR ι) m ds.toList) : (Op.equalIn 10000 t (.agg cs) (.agg ds)).run P w = .ok r w := by
  unfold plainB at hp
  simp only [Bool.and_eq_true] at hp
  obtain ⟨h1, h2, h3⟩ := hp
  unfold eqTwo at he
  obtain ⟨a, ha, he⟩ := Option.bind_eq_some_iff.1 he
  obtain ⟨b, hb, he⟩ := Option.bind_eq_some_iff.1 he
  unfold litsOf at ha hb
  cases hv : valsOf l with
  | none => rw [hv] at ha; cases ha
  | some vs =>
    cases hu : valsOf m with
    | none => rw [hu] at hb; cases hb
    | some us =>
      rw [hv] at ha
      rw [hu] at hb
      have e1 := valsOf_R hv hc
      have e2 := valsOf_R hu hd
      have f1 : (Value.agg cs).formed P t = true := by
        have : cs.size = P.cellsOf t := by rw [← hl, hc.length, Array.length_toList]
        unfold Value.formed
        split at h3 <;> simp_all
      have f2 : (Value.agg ds).formed P t = true := by
        have : ds.size = P.cellsOf t := by rw [← hm, hd.length, Array.length_toList]
        unfold Value.formed
        split at h3 <;> simp_all
      obtain ⟨q, hr, hiff⟩ := run_equalIn_deep (P := P) 9988 12 t h1 w 12 12 (.agg cs) (.agg ds) a b f1 f2 (by show P.keyLits 12 t cs.toList = some a; rw [e1]; exact ha) (by show P.keyLits 12 t ds.toList = some b; rw [e2]; exact hb)
      have : q = r := by
        rw [Bool.eq_iff_iff]
        exact hiff.trans (litsEq_spec he).symm
      rw [← this]
      exact hr
theorem eqaR_sound [Sig] {o : Oper} {pos : Bool} {t yt : TypeId} {x y : Operand} (ho : o.op = .binOp (if pos = true then .eql else .neq) t x y yt) : CrSound P (eqaR P t pos) o := by
  unfold eqaR
  cases hp : plainB P t with
  | false => exact badR_sound o
  | true =>
    intro D vs H k _ h
    obtain ⟨u, v, rfl, h1⟩ := arg2_true (show arg2 vs _ = true from h)
    obtain ⟨l, rfl, h2⟩ := asG_true h1
    obtain ⟨m, rfl, h3⟩ := asG_true h2
    obtain ⟨h4, h5⟩ := andK_true h3
    obtain ⟨h6, h7⟩ := andK_true h5
    obtain ⟨r, he, h8⟩ := optB_true h7
    rw [boolR_eq] at h8
    refine ⟨_, H, h8, bin_pure ho fun ι w cv dv _ hu hv => ?_⟩
    obtain ⟨cs, rfl, hc⟩ := hu
    obtain ⟨ds, rfl, hd⟩ := hv
    have hrun := eqa_run hp (beq_true h4) (beq_true h6) he (w := w) hc hd
    have hg : P.eqGuardType P.depth t = false := by
      unfold plainB at hp
      simp only [Bool.and_eq_true, Bool.not_eq_true'] at hp
      exact hp.2.1
    suffices hh : (do eqGuard (if pos = true then BinOp.eql else .neq) t x y (.agg cs) (.agg ds); binOp (if pos = true then BinOp.eql else .neq) t (.agg cs) (.agg ds) : Sem Value).run P w = .ok (.bool (Bool.rec (notB r) r pos)) w from ⟨_, hh, rfl⟩
    rw [Sem.run_bind, run_eqGuard_agg w _ t x y cs ds hg, Result.andThen_ok]
    cases pos with
    | true =>
      show (binOp .eql t (.agg cs) (.agg ds)).run P w = _
      rw [run_eql_struct, hrun]
      rfl
    | false =>
      show (binOp .neq t (.agg cs) (.agg ds)).run P w = _
      rw [run_neq_struct, hrun]
      simp only [Result.andThen_ok, notB_eq]
/-- a rule for aggregates, and one for the rest -/
noncomputable def orAgg (a b : Cr) : Cr := ⟨fun D vs H k => List.rec false (fun x _ _ => Va.rec (fun _ => b.run D vs H k) (fun _ => a.run D vs H k) (fun _ => b.run D vs H k) x) vs⟩
theorem orAgg_sound [Sig] {a b : Cr} {o : Oper} (ha : CrSound P a o) (hb : CrSound P b o) : CrSound P (orAgg a b) o := by
  intro D vs H k hD h
  cases vs with
  | nil => cases h
  | cons x vs =>
    cases x with
    | s y => exact hb D _ H k hD h
    | g y => exact ha D _ H k hD h
    | t y => exact hb D _ H k hD h
noncomputable def binR (P : Program) (t : TypeId) : BinOp → Cr
  | .eql => orAgg (eqaR P t true) (crBin P t .eql)
  | .neq => orAgg (eqaR P t false) (crBin P t .neq)
  | op => crBin P t op
theorem binR_sound [Sig] {o : Oper} {op : BinOp} {t yt : TypeId} {x y : Operand} (ho : o.op = .binOp op t x y yt) : CrSound P (binR P t op) o := by
  cases op with
  | eql => exact orAgg_sound (eqaR_sound (pos := true) ho) (crBin_sound ho)
  | neq => exact orAgg_sound (eqaR_sound (pos := false) ho) (crBin_sound ho)
  | _ => exact crBin_sound ho
end
end Go.Proofs.YtmdciljpcnokcaaGreatDoor.Ex
