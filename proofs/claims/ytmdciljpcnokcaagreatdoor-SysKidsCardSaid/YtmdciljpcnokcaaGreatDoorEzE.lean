/-
  A run of closed code by the kernel: maps by numbers, slices with three bounds, and each operation's rule.
-/
import Derived.Test.YtmdciljpcnokcaaGreatDoorEzD
import Derived.Orders
namespace Go.Proofs.YtmdciljpcnokcaaGreatDoor.Ex
section
variable {P : Program}
noncomputable def slice3R (P : Program) (t : TypeId) : Cr :=
  match P.underlying t with
  | some (.slice _) => ⟨fun _ vs H k => arg3 vs fun x y z => asSl x fun b off len esz _ => asI y fun _ h => asI z fun _ m => asNat h fun h => asNat m fun m => andK (Nat.ble h m) (andK (Nat.ble m len) (k (.s (.sl b off h esz (some m))) H))⟩
  | _ => badR
theorem slice3R_sound [Sig] {o : Oper} {t : TypeId} {x y z : Operand} (ho : o.op = .slice t x none (some y) (some z)) (hsz : ∀ e, P.underlying t = some (.slice e) → (P.info? e).isSome = true) : CrSound P (slice3R P t) o := by
  unfold slice3R
  split
  case h_2 => exact badR_sound o
  rename_i e hu
  obtain ⟨i, hi⟩ := Option.isSome_iff_exists.1 (hsz e hu)
  intro D vs H k _ h
  obtain ⟨u, v, r, rfl, h1⟩ := arg3_true h
  obtain ⟨b, off, len, esz, cap, rfl, h2⟩ := asSl_true h1
  obtain ⟨kh, hh, rfl, h3⟩ := asI_true h2
  obtain ⟨km, mm, rfl, h4⟩ := asI_true h3
  obtain ⟨hh, rfl, h5⟩ := asNat_true h4
  obtain ⟨mm, rfl, h6⟩ := asNat_true h5
  obtain ⟨h7, h8⟩ := andK_true h6
  obtain ⟨h9, h10⟩ := andK_true h8
  have hhm := ble_true h7
  have hml := ble_true h9
  refine ⟨_, H, h10, opSound_pure (fun _ e => by rw [ho] at e; cases e) fun ι w ρ hv hH => ?_⟩
  have e0 : o.op.operands.toList = [x, y, z] := by rw [ho]; rfl
  rw [e0] at hv
  obtain ⟨⟨q, c, hq, e1, hc, hroom, _⟩, e2, e3, _⟩ := hv
  have e2 : ρ y = .int (kOf kh) (Int.ofNat hh) := e2
  have e3 : ρ z = .int (kOf km) (Int.ofNat mm) := e3
  have b1 : (Instr.sliceBound (.int (kOf km) (mm : Int)) c .slice3Acap).run P w = .ok mm w := bound_ok (Nat.le_trans hml hc) w
  have b2 : (Instr.sliceBound (.int (kOf kh) (hh : Int)) mm .slice3B).run P w = .ok hh w := bound_ok hhm w
  refine ⟨.slice (some ⟨q.block, q.base + off, none⟩) hh mm, ?_, q, mm, hq, rfl, hhm, Nat.le_trans (Nat.add_le_add_left (Nat.mul_le_mul_right _ (Nat.le_trans hml hc)) _) hroom, fun k' e => by cases e; rfl⟩
  have e4 : (Instr.sliceAt t (ρ x) none (some (ρ y)) (some (ρ z))).run P w = .ok (.slice (some ⟨q.block, q.base + off, none⟩) hh mm) w := by
    rw [e1, e2, e3]
    simp [Instr.sliceAt, run_underlying hu, Instr.slice, Instr.sliceBounds, b1, b2, sizeOf, typeInfo, hi, Addr.add_zero']
  simp only [execOp, ho, Option.map_none, Option.map_some]
  rw [Sem.run_bind, e4]
  rfl
/-! ### Maps by numbers -/
noncomputable def newM (H : Hp) (k : Nat → Hp → Bool) : Bool := hpK H fun nx t => t.setK (some (.map [])) nx fun t' => k nx ⟨Nat.succ nx, t'⟩
noncomputable def mkmR : Cr := ⟨fun _ vs H k => List.rec (newM H fun b H' => k (.s (.oth (.map b))) H') (fun _ _ _ => false) vs⟩
theorem mkmR_sound [Sig] {o : Oper} {t : TypeId} (ho : o.op = .makeMap t none) : CrSound P mkmR o := by
  intro D vs H k _ h
  match vs, h with
  | [], h =>
    obtain ⟨t', h1, h2, h3⟩ := Tr.setK_true (show H.t.setK (some (.map [])) H.nx (fun t' => k (.s (.oth (.map H.nx))) ⟨H.nx + 1, t'⟩) = true from h)
    refine ⟨_, _, h1, fun ι w ρ hv hH => ?_⟩
    obtain ⟨g1, g2⟩ := hH.alloc (.map #[] 0) 0 h2 h3 ⟨_, #[], 0, Inj.more_same, World.alloc_heap_new _ _, trivial⟩
    refine opTo_value (fun _ e => by rw [ho] at e; cases e) (v := .map (some w.heap.size)) (w' := w.alloc (.map #[] 0)) ?_ ⟨_, g2, g1, _, Inj.more_same, rfl⟩
    simp only [execOp, ho]
    rfl
  | _ :: _, h => cases h
/-- an entry by a number -/
noncomputable def fndK (kc : Nat) (n : Int) (es : List (Sc × Wd)) : (Nat → Wd → Bool) → Bool → Bool :=
  List.rec (fun _ e => e) (fun p _ ih f e => Prod.rec (fun key v => Sc.rec (fun kc' n' => andK (Nat.beq kc kc') (Bool.rec (ih (fun i w => f (Nat.succ i) w) e) (f 0 v) (eqI n n'))) (fun _ _ => false) (fun _ _ => false) (fun _ => false) (fun _ _ _ _ _ => false) (fun _ => false) key) p) es
theorem fndK_true [Sig] {kd : IntKind} {kc : Nat} {n : Int} : ∀ {es : List (Sc × Wd)} {f : Nat → Wd → Bool} {e : Bool}, fndK kc n es f e = true →
    (∃ i v, f i v = true ∧ es[i]? = some (.int kc n, v) ∧ ∀ ι (ms : List MapEntry) j, RL (EntR ι) es ms → ∃ m, ms[i]? = some m ∧ m.key = .int (kOf kc) n ∧ v.R ι m.val ∧ Instr.findNow (.int kd) (.int (kOf kc) n) ms j = some (some (j + i, m.val))) ∨
    (e = true ∧ ∀ ι (ms : List MapEntry) j, RL (EntR ι) es ms → Instr.findNow (.int kd) (.int (kOf kc) n) ms j = some none)
  | [], f, e, h => .inr ⟨h, fun ι ms j hR => by cases ms with | nil => rfl | cons => exact hR.elim⟩
  | (key, v) :: es, f, e, h => by
    cases key with
    | int kc' n' =>
      obtain ⟨h1, h2⟩ := andK_true (show andK (Nat.beq kc kc') (Bool.rec (fndK kc n es (fun i w => f (Nat.succ i) w) e) (f 0 v) (eqI n n')) = true from h)
      obtain rfl := beq_true h1
      cases he : eqI n n' with
      | true =>
        rw [he] at h2
        rw [eqI_eq, beq_iff_eq] at he
        subst he
        refine .inl ⟨0, v, h2, by simp, fun ι ms j hR => ?_⟩
        cases ms with
        | nil => exact hR.elim
        | cons m ms =>
          have hk : m.key = .int (kOf kc) n := hR.1.1
          refine ⟨m, by simp, hk, hR.1.2, ?_⟩
          simp [Instr.findNow, hk, Instr.sameNow]
      | false =>
        rw [he] at h2
        have hne : ¬ n = n' := by
          rw [eqI_eq] at he
          simpa using he
        have step : ∀ ι (m : MapEntry) (ms : List MapEntry) j, EntR ι (.int kc n', v) m → Instr.findNow (.int kd) (.int (kOf kc) n) (m :: ms) j = Instr.findNow (.int kd) (.int (kOf kc) n) ms (j + 1) := by
          intro ι m ms j hm
          have hk : m.key = .int (kOf kc) n' := hm.1
          have : (n == n') = false := by simpa using hne
          have e : Instr.sameNow (.int kd) (.int (kOf kc) n) m.key = some false := by
            rw [hk]
            show (if kOf kc = kOf kc then some (n == n') else none) = some false
            rw [if_pos rfl, this]
          show (match Instr.sameNow (.int kd) (.int (kOf kc) n) m.key with | some true => some (some (j, m.val)) | some false => Instr.findNow (.int kd) (.int (kOf kc) n) ms (j + 1) | none => none) = _
          rw [e]
        rcases fndK_true (kd := kd) h2 with ⟨i, u, g1, g2, g3⟩ | ⟨g1, g2⟩
        · refine .inl ⟨i + 1, u, g1, by simpa using g2, fun ι ms j hR => ?_⟩
          cases ms with
          | nil => exact hR.elim
          | cons m ms =>
            obtain ⟨m', e1, e2, e3, e4⟩ := g3 ι ms (j + 1) hR.2
            refine ⟨m', by simpa using e1, e2, e3, ?_⟩
            rw [step ι m ms j hR.1, e4]
            congr 3
            omega
        · refine .inr ⟨g1, fun ι ms j hR => ?_⟩
          cases ms with
          | nil => exact hR.elim
          | cons m ms => rw [step ι m ms j hR.1]; exact g2 ι ms (j + 1) hR.2
    | _ => cases h
noncomputable def asMap (v : Va) (k : Nat → Bool) : Bool := asS v fun x => Sc.rec (fun _ _ => false) (fun _ _ => false) (fun _ _ => false) (fun _ => false) (fun _ _ _ _ _ => false) (fun o => Ot.rec false false false false false false (fun _ => false) (fun _ _ => false) (fun _ => false) (fun b => k b) false (fun _ => false) o) x
theorem asMap_true [Sig] {v : Va} {k : Nat → Bool} (h : asMap v k = true) : ∃ b, v = .s (.oth (.map b)) ∧ k b = true := by
  obtain ⟨x, rfl, h1⟩ := asS_true h
  cases x with
  | oth o =>
    cases o with
    | map b => exact ⟨b, rfl, h1⟩
    | _ => cases h1
  | _ => cases h1
noncomputable def asMapO (o : Ob) (k : List (Sc × Wd) → Bool) : Bool := Ob.rec (fun _ _ _ => false) false (fun _ => false) (fun _ => false) (fun es => k es) o
theorem asMapO_true {o : Ob} {k : List (Sc × Wd) → Bool} (h : asMapO o k = true) : ∃ es, o = .map es ∧ k es = true := by
  cases o with
  | map es => exact ⟨es, rfl, h⟩
  | _ => cases h
/-- the type of a map by numbers: its values' type -/
def mapOf (P : Program) (t : TypeId) : Option TypeId :=
  match P.underlying t with
  | some (.map kt e) => match P.underlying kt with
    | some (.int _) => some e
    | _ => none
  | _ => none
theorem mapOf_spec {t e : TypeId} (h : mapOf P t = some e) : ∃ kt kd, P.underlying t = some (.map kt e) ∧ P.underlying kt = some (.int kd) := by
  unfold mapOf at h
  split at h
  · split at h
    · cases h; exact ⟨_, _, by assumption, by assumption⟩
    · cases h
  · cases h
theorem run_checkKey1 {kt : TypeId} {kd k : IntKind} (h : P.underlying kt = some (.int kd)) (em : Bool) (n : Int) (w : World) (d : Nat) : (Instr.checkKey em (d + 1) kt (.int k n)).run P w = .ok () w := by
  simp [Instr.checkKey, run_underlying h]
theorem run_checkKey [Sig] {kt : TypeId} {kd k : IntKind} (h : P.underlying kt = some (.int kd)) (em : Bool) (n : Int) (w : World) : (Instr.checkKey em 10000 kt (.int k n)).run P w = .ok () w := run_checkKey1 h em n w 9999
noncomputable def lookR (P : Program) (t : TypeId) (ok : Bool) : Cr :=
  match mapOf P t with
  | some e => match (P.info? e).bind (fun i => i.zero.bind vaV) with
    | some z => ⟨fun _ vs H k => arg2 vs fun m x => asMap m fun b => asI x fun kc n => hpK H fun _ t => t.getK b fun o => asMapO o fun es =>
        fndK kc n es (fun _ v => Bool.rec (ofWdK v fun r => k r H) (k (.t [v, .s (.bool true)]) H) ok) (Bool.rec (k z H) (toWd z fun u => k (.t [u, .s (.bool false)]) H) ok)⟩
    | none => badR
  | none => badR
theorem lookR_sound [Sig] {o : Oper} {t : TypeId} {x y : Operand} {ok : Bool} (ho : o.op = .lookup t x y ok) : CrSound P (lookR P t ok) o := by
  unfold lookR
  split
  case h_2 => exact badR_sound o
  rename_i e hm
  split
  case h_2 => exact badR_sound o
  rename_i z hz
  obtain ⟨kt, kd, hu, hk⟩ := mapOf_spec hm
  obtain ⟨zv, hzv, hzr⟩ : ∃ zv, (∀ w, (zeroValue e).run P w = .ok zv w) ∧ ∀ ι, z.R ι zv := by
    cases hi : P.info? e with
    | none => rw [hi] at hz; cases hz
    | some i =>
      rw [hi] at hz
      cases hz0 : i.zero with
      | none => simp [hz0] at hz
      | some zv =>
        simp only [Option.bind_some, hz0] at hz
        exact ⟨zv, fun w => by simp [zeroValue, typeInfo, hi, hz0], vaV_R hz⟩
  intro D vs H k _ h
  obtain ⟨u, v, rfl, h1⟩ := arg2_true h
  obtain ⟨b, rfl, h2⟩ := asMap_true h1
  obtain ⟨kc, n, rfl, h3⟩ := asI_true h2
  obtain ⟨ob, h4, h5⟩ := Tr.getK_true (show H.t.getK b _ = true from h3)
  obtain ⟨es, rfl, h6⟩ := asMapO_true h5
  have hnd : ∀ c, o.op ≠ .defer c := fun _ e => by rw [ho] at e; cases e
  have base : ∀ ι w (ρ : Operand → Value), (Va.s (.oth (.map b))).R ι (ρ x) → HR ι H w → ∃ blk ms clock, ρ x = .map (some blk) ∧ w.heap[blk]? = some (.map ms clock) ∧ RL (EntR ι) es ms.toList := by
    intro ι w ρ ⟨q, hq, e1⟩ hH
    obtain ⟨q', ms, cl, f1, f2, f3⟩ := hH.obj b _ h4
    rw [hq] at f1
    cases f1
    exact ⟨_, ms, cl, e1, f2, f3⟩
  have run0 : ∀ w blk ms clock, w.heap[blk]? = some (.map ms clock) → (getObj blk).run P w = .ok (.map ms clock) w := by
    intro w blk ms clock hb
    simp [getObj, Sem.run, hb]
  rcases fndK_true (kd := kd) h6 with ⟨i, v, g1, g2, g3⟩ | ⟨g1, g2⟩
  · have g1 : (Bool.rec (ofWdK v fun r => k r H) (k (.t [v, .s (.bool true)]) H) ok : Bool) = true := g1
    cases ok with
    | false =>
      have g1 : ofWdK v (fun r => k r H) = true := g1
      rw [ofWdK_eq] at g1
      refine ⟨_, H, g1, two_pure (by rw [ho]; rfl) hnd fun ι w ρ hH hu1 hu2 => ?_⟩
      obtain ⟨blk, ms, cl, e1, e2, e3⟩ := base ι w ρ hu1 hH
      obtain ⟨m, e4, e5, e6, e7⟩ := g3 ι ms.toList 0 e3
      have e8 : ρ y = .int (kOf kc) n := hu2
      refine ⟨m.val, ?_, ofWd_R e6⟩
      simp [execOp, ho, e1, e8, Instr.lookup, run_underlying hu, run0 w blk ms cl e2, run_checkKey hk, Instr.findKey, run_underlying hk, e7]
    | true =>
      refine ⟨_, H, g1, two_pure (by rw [ho]; rfl) hnd fun ι w ρ hH hu1 hu2 => ?_⟩
      obtain ⟨blk, ms, cl, e1, e2, e3⟩ := base ι w ρ hu1 hH
      obtain ⟨m, e4, e5, e6, e7⟩ := g3 ι ms.toList 0 e3
      have e8 : ρ y = .int (kOf kc) n := hu2
      refine ⟨.tuple #[m.val, .bool true], ?_, _, rfl, e6, rfl, trivial⟩
      simp [execOp, ho, e1, e8, Instr.lookup, run_underlying hu, run0 w blk ms cl e2, run_checkKey hk, Instr.findKey, run_underlying hk, e7]
  · cases ok with
    | false =>
      refine ⟨_, H, g1, two_pure (by rw [ho]; rfl) hnd fun ι w ρ hH hu1 hu2 => ?_⟩
      obtain ⟨blk, ms, cl, e1, e2, e3⟩ := base ι w ρ hu1 hH
      have e7 := g2 ι ms.toList 0 e3
      have e8 : ρ y = .int (kOf kc) n := hu2
      refine ⟨zv, ?_, hzr ι⟩
      simp [execOp, ho, e1, e8, Instr.lookup, run_underlying hu, run0 w blk ms cl e2, run_checkKey hk, Instr.findKey, run_underlying hk, e7, hzv]
    | true =>
      obtain ⟨uw, g3, g4⟩ := toWd_true (show toWd z (fun u => k (.t [u, .s (.bool false)]) H) = true from g1)
      refine ⟨_, H, g3, two_pure (by rw [ho]; rfl) hnd fun ι w ρ hH hu1 hu2 => ?_⟩
      obtain ⟨blk, ms, cl, e1, e2, e3⟩ := base ι w ρ hu1 hH
      have e7 := g2 ι ms.toList 0 e3
      have e8 : ρ y = .int (kOf kc) n := hu2
      refine ⟨.tuple #[zv, .bool false], ?_, _, rfl, g4 ι _ (hzr ι), rfl, trivial⟩
      simp [execOp, ho, e1, e8, Instr.lookup, run_underlying hu, run0 w blk ms cl e2, run_checkKey hk, Instr.findKey, run_underlying hk, e7, hzv]
noncomputable def setE (v : Wd) (es : List (Sc × Wd)) : Nat → (List (Sc × Wd) → Bool) → Bool := List.rec (fun _ _ => false) (fun p es ih n k => Nat.rec (Prod.rec (fun key _ => k ((key, v) :: es)) p) (fun m _ => ih m fun l => k (p :: l)) n) es
theorem setE_true [Sig] {v : Wd} : ∀ {es : List (Sc × Wd)} {n : Nat} {k : List (Sc × Wd) → Bool}, setE v es n k = true → ∃ es', k es' = true ∧ ∀ ι (ms : List MapEntry) (m : MapEntry), RL (EntR ι) es ms → v.R ι m.val → (∀ q, ms[n]? = some q → m.key = q.key) → RL (EntR ι) es' (ms.set n m)
  | [], n, k, h => by cases h
  | (key, u) :: es, 0, k, h => ⟨_, h, fun ι ms m hR hv hk => by
    cases ms with
    | nil => exact hR.elim
    | cons q ms =>
      have := hk q (by simp)
      exact ⟨⟨by rw [this]; exact hR.1.1, hv⟩, hR.2⟩⟩
  | p :: es, n + 1, k, h => by
    obtain ⟨es', h1, h2⟩ := setE_true (show setE v es n (fun l => k (p :: l)) = true from h)
    refine ⟨_, h1, fun ι ms m hR hv hk => ?_⟩
    cases ms with
    | nil => exact hR.elim
    | cons q ms => exact ⟨hR.1, h2 ι ms m hR.2 hv fun q' hq => hk q' (by simpa using hq)⟩
noncomputable def addE (p : Sc × Wd) (es : List (Sc × Wd)) : (List (Sc × Wd) → Bool) → Bool := List.rec (fun k => k [p]) (fun q _ ih k => ih fun l => k (q :: l)) es
theorem addE_true {p : Sc × Wd} : ∀ {es : List (Sc × Wd)} {k : List (Sc × Wd) → Bool}, addE p es k = true → k (es ++ [p]) = true
  | [], _, h => h
  | q :: es, k, h => addE_true (es := es) (k := fun l => k (q :: l)) h
noncomputable def updR (P : Program) (t : TypeId) : Cr :=
  match mapOf P t with
  | some _ => ⟨fun _ vs H k => arg3 vs fun m x v => asMap m fun b => asI x fun kc n => toWd v fun u => hpK H fun nx t => t.getK b fun o => asMapO o fun es =>
      fndK kc n es (fun i _ => setE u es i fun es' => t.setK (some (.map es')) b fun t' => k (.s (.oth .und)) ⟨nx, t'⟩) (addE (.int kc n, u) es fun es' => t.setK (some (.map es')) b fun t' => k (.s (.oth .und)) ⟨nx, t'⟩)⟩
  | none => badR
theorem updR_sound' [Sig] {o : Oper} {t : TypeId} {x y z : Operand} (he : ∀ ρ, execOp ρ o = (do Instr.mapUpdate t (ρ x) (ρ y) (ρ z); pure .skip)) (hops : o.op.operands.toList = [x, y, z]) (hnd : ∀ c, o.op ≠ .defer c) : CrSound P (updR P t) o := by
  unfold updR
  split
  case h_2 => exact badR_sound o
  rename_i e hm
  obtain ⟨kt, kd, hu, hk⟩ := mapOf_spec hm
  intro D vs H k _ h
  obtain ⟨m, v, r, rfl, h1⟩ := arg3_true h
  obtain ⟨b, rfl, h2⟩ := asMap_true h1
  obtain ⟨kc, n, rfl, h3⟩ := asI_true h2
  obtain ⟨u, h4, h5⟩ := toWd_true h3
  obtain ⟨ob, h6, h7⟩ := Tr.getK_true (show H.t.getK b _ = true from h4)
  obtain ⟨es, rfl, h8⟩ := asMapO_true h7
  rcases fndK_true (kd := kd) h8 with ⟨i, w0, g1, g2, g3⟩ | ⟨g1, g2⟩
  · obtain ⟨es', g4, g5⟩ := setE_true g1
    obtain ⟨t', g6, g7, g8⟩ := Tr.setK_true g4
    refine ⟨_, _, g6, fun ι w ρ hv hH => ?_⟩
    rw [hops] at hv
    obtain ⟨⟨q, hq, e1⟩, e2, e3, _⟩ := hv
    have e2 : ρ y = .int (kOf kc) n := e2
    obtain ⟨q', ms, cl, f1, f2, f3⟩ := hH.obj b _ h6
    rw [hq] at f1
    cases f1
    obtain ⟨m, e4, e5, e6, e7⟩ := g3 ι ms.toList 0 f3
    have e4 : ms[i]? = some m := by simpa using e4
    obtain ⟨d1, d2⟩ := hH.put h6 hq g7 g8 (.map (ms.modify i fun e => { e with key := .int (kOf kc) n, val := ρ z }) cl) (fun o' eo => by
      cases eo
      refine ⟨q, _, cl, hq, World.putObj_heap_same (hH.lt b q hq), ?_⟩
      have := g5 ι ms.toList { m with key := .int (kOf kc) n, val := ρ z } f3 (h5 ι _ e3) (fun q hq => by
        have hq : ms[i]? = some q := by simpa using hq
        rw [e4] at hq
        cases hq
        exact e5.symm)
      have e8 : (ms.modify i fun e => { e with key := .int (kOf kc) n, val := ρ z }).toList = ms.toList.set i { m with key := .int (kOf kc) n, val := ρ z } := by
        apply List.ext_getElem?
        intro j
        rw [Array.getElem?_toList, Array.getElem?_modify, List.getElem?_set]
        by_cases hj : i = j
        · subst hj
          have hlt := (Array.getElem?_eq_some_iff.1 e4).1
          rw [if_pos rfl, if_pos rfl, e4, if_pos (by simpa using hlt)]
          rfl
        · simp [hj]
      rw [e8]
      exact this)
    refine opTo_skip hnd (w' := w.putObj q.block (.map (ms.modify i fun e => { e with key := .int (kOf kc) n, val := ρ z }) cl)) ?_ ⟨ι, d2, d1, rfl⟩
    have run0 : (getObj q.block).run P w = .ok (.map ms cl) w := by simp [getObj, Sem.run, f2]
    have run1 : ∀ ob, (setObj q.block ob).run P w = .ok () (w.putObj q.block ob) := fun ob => by simp [setObj, Sem.run, f2, World.putObj]
    have hkeep : (Instr.keyThatStays (.int (kOf kc) n) (.int (kOf kc) n)).run P w = .ok (.int (kOf kc) n) w := by simp [Instr.keyThatStays, Instr.sameBits]
    have e7 : Instr.findNow (.int kd) (.int (kOf kc) n) ms.toList 0 = some (some (i, m.val)) := by simpa using e7
    rw [he]
    simp [e1, e2, Instr.mapUpdate, run_underlying hu, run0, run_checkKey hk, Instr.findKey, run_underlying hk, e7, e4, e5, hkeep, run1]
  · have g3 := addE_true g1
    obtain ⟨t', g6, g7, g8⟩ := Tr.setK_true g3
    refine ⟨_, _, g6, fun ι w ρ hv hH => ?_⟩
    rw [hops] at hv
    obtain ⟨⟨q, hq, e1⟩, e2, e3, _⟩ := hv
    have e2 : ρ y = .int (kOf kc) n := e2
    obtain ⟨q', ms, cl, f1, f2, f3⟩ := hH.obj b _ h6
    rw [hq] at f1
    cases f1
    have e7 := g2 ι ms.toList 0 f3
    obtain ⟨d1, d2⟩ := hH.put h6 hq g7 g8 (.map (ms.push { key := .int (kOf kc) n, val := ρ z, born := cl }) (cl + 1)) (fun o' eo => by
      cases eo
      refine ⟨q, _, cl + 1, hq, World.putObj_heap_same (hH.lt b q hq), ?_⟩
      rw [Array.toList_push]
      exact f3.append ⟨⟨rfl, h5 ι _ e3⟩, trivial⟩)
    refine opTo_skip hnd (w' := w.putObj q.block (.map (ms.push { key := .int (kOf kc) n, val := ρ z, born := cl }) (cl + 1))) ?_ ⟨ι, d2, d1, rfl⟩
    have run0 : (getObj q.block).run P w = .ok (.map ms cl) w := by simp [getObj, Sem.run, f2]
    have run1 : ∀ ob, (setObj q.block ob).run P w = .ok () (w.putObj q.block ob) := fun ob => by simp [setObj, Sem.run, f2, World.putObj]
    rw [he]
    simp [e1, e2, Instr.mapUpdate, run_underlying hu, run0, run_checkKey hk, Instr.findKey, run_underlying hk, e7, run1]
/-! ### A row without anything -/
/-- is a value a row without anything? -/
noncomputable def orNil (a b : Cr) : Cr := ⟨fun D vs H k => List.rec false (fun x _ _ => Va.rec (fun y => Sc.rec (fun _ _ => b.run D vs H k) (fun _ _ => b.run D vs H k) (fun _ _ => b.run D vs H k) (fun _ => b.run D vs H k) (fun _ _ _ _ _ => b.run D vs H k)
  (fun o => Ot.rec (b.run D vs H k) (b.run D vs H k) (b.run D vs H k) (a.run D vs H k) (b.run D vs H k) (b.run D vs H k) (fun _ => b.run D vs H k) (fun _ _ => b.run D vs H k) (fun _ => b.run D vs H k) (fun _ => b.run D vs H k) (a.run D vs H k) (fun _ => b.run D vs H k) o) y) (fun _ => b.run D vs H k) (fun _ => b.run D vs H k) x) vs⟩
theorem orNil_sound [Sig] {a b : Cr} {o : Oper} (ha : CrSound P a o) (hb : CrSound P b o) : CrSound P (orNil a b) o := by
  intro D vs H k hD h
  have h0 : a.run D vs H k = true ∨ b.run D vs H k = true := by
    cases vs with
    | nil => cases h
    | cons x vs =>
      cases x with
      | s y =>
        cases y with
        | oth o => cases o <;> first | exact .inr h | exact .inl h
        | _ => exact .inr h
      | g => exact .inr h
      | t => exact .inr h
  rcases h0 with h | h
  · exact ha D vs H k hD h
  · exact hb D vs H k hD h
noncomputable def slNilR (P : Program) (t : TypeId) (lo hi : Bool) : Cr :=
  match P.underlying t with
  | some (.slice e) => match P.info? e with
    | some _ => ⟨fun _ vs H k => List.rec false (fun x vs _ => asS x fun y => bndK lo hi vs 0 fun l m => andK (Nat.beq l 0) (andK (Nat.beq m 0) (Sc.rec (fun _ _ => false) (fun _ _ => false) (fun _ _ => false) (fun _ => false) (fun _ _ _ _ _ => false)
      (fun o => Ot.rec false false false (k x H) false false (fun _ => false) (fun _ _ => false) (fun _ => false) (fun _ => false) (k x H) (fun _ => false) o) y))) vs⟩
    | none => badR
  | _ => badR
theorem slNilR_sound [Sig] {o : Oper} {t : TypeId} {x : Operand} {lo hi : Option Operand} (ho : o.op = .slice t x lo hi none) : CrSound P (slNilR P t lo.isSome hi.isSome) o := by
  unfold slNilR
  split
  case h_2 => exact badR_sound o
  rename_i e hu
  split
  case h_2 => exact badR_sound o
  rename_i i hI
  intro D vs H k _ h
  match vs, h with
  | u :: vs, h =>
    obtain ⟨y, rfl, h1⟩ := asS_true (show asS u _ = true from h)
    obtain ⟨l, m, h2, h3⟩ := bndK_true h1
    obtain ⟨h4, h5⟩ := andK_true h2
    obtain ⟨h6, h7⟩ := andK_true h5
    obtain rfl := beq_true h4
    obtain rfl := beq_true h6
    have key : k (.s y) H = true ∧ (y = .oth .nils ∨ y = .oth .emp) := by
      cases y with
      | oth o => cases o <;> first | (cases h7; done) | exact ⟨h7, .inl rfl⟩ | exact ⟨h7, .inr rfl⟩
      | _ => cases h7
    refine ⟨_, H, key.1, opSound_pure (fun c e => by rw [ho] at e; cases e) fun ι w ρ hv hH => ?_⟩
    rw [slice_ops ho] at hv
    obtain ⟨hx, hv⟩ := hv
    obtain ⟨g1, g2⟩ := h3 ι ρ hv
    have hs : ∃ a c, ρ x = .slice a 0 c := by
      rcases key.2 with e | e
      · rw [e] at hx; exact ⟨none, 0, hx⟩
      · rw [e] at hx; obtain ⟨a, c, hx⟩ := hx; exact ⟨some a, c, hx⟩
    obtain ⟨a, c, e1⟩ := hs
    refine ⟨ρ x, ?_, hx⟩
    have hr := bounds_run (P := P) (isS := true) w g1 g2 (Nat.le_refl 0) (Nat.zero_le c)
    have e2 : (Instr.sliceAt t (ρ x) (lo.map ρ) (hi.map ρ) none).run P w = .ok (.slice a 0 c) w := by
      rw [e1]
      have ha : (a.map fun b => b.add 0) = a := by
        cases a with
        | none => rfl
        | some b => simp [Addr.add]
      simp [Instr.sliceAt, run_underlying hu, Instr.slice, hr, sizeOf, typeInfo, hI, ha]
    simp only [execOp, ho, Option.map_none]
    rw [Sem.run_bind, e2, e1]
    rfl
  | [], h => cases h
/-! ### Each operation's rule -/
noncomputable def crBui (P : Program) (ats : Array TypeId) : Builtin → Cr
  | .len => match ats[0]? with
    | some t => lenR P t
    | none => badR
  | .append => appR P ats
  | .copy => match ats[0]? with
    | some t => copyR P t
    | none => badR
  | .max => mmR true
  | .min => mmR false
  | _ => badR
theorem crBui_sound [Sig] {o : Oper} {b : Builtin} {args : Array Operand} {ats : Array TypeId} (ho : o.op = .call { callee := .builtin b, args, argTypes := ats }) : CrSound P (crBui P ats b) o := by
  cases b with
  | len =>
    show CrSound P (match ats[0]? with
      | some t => lenR P t
      | none => badR) o
    cases h : ats[0]? with
    | some t => exact lenR_sound ho h
    | none => exact badR_sound o
  | append => exact appR_sound ho
  | copy =>
    show CrSound P (match ats[0]? with
      | some t => copyR P t
      | none => badR) o
    cases h : ats[0]? with
    | some t => exact copyR_sound ho h
    | none => exact badR_sound o
  | max => exact maxR_sound ho
  | min => exact minR_sound ho
  | _ => exact badR_sound o
def hasInfo (P : Program) (t : TypeId) : Bool :=
  match P.underlying t with
  | some (.slice e) => (P.info? e).isSome
  | _ => true
noncomputable def crOf (P : Program) (o : Oper) : Cr :=
  match o.op with
  | .move _ => movR
  | .assign _ => movR
  | .pick _ _ _ => pickR
  | .binOp op t _ _ _ => binR P t op
  | .unOp op _ _ => unR op
  | .convert s d _ => cnvR P s d
  | .load t _ => loadR P t
  | .store t _ _ => storeR P t
  | .alloc t => allocR P t
  | .box t _ => boxR t
  | .build t ps => buildR P t (ps.toList.map (·.1))
  | .buildSlice t n ps => bslR P t n (ps.toList.map (·.1))
  | .makeSlice t _ _ => mkslR P t
  | .fieldAddr t _ f => fldR P t f
  | .field t _ f => fvalR P t f
  | .indexAddr t _ _ => idxR P t
  | .index t _ _ => idxvR P t
  | .slice t _ lo hi none => orNil (slNilR P t lo.isSome hi.isSome) (sliceR P t lo.isSome hi.isSome)
  | .slice t _ none (some _) (some _) => if hasInfo P t = true then slice3R P t else badR
  | .nilCheck _ => nilcR
  | .extract _ i => extR i
  | .makeFunc (.func f) first _ => if first = #[] then mkfR f else badR
  | .makeMap _ none => mkmR
  | .lookup t _ _ ok => lookR P t ok
  | .mapUpdate t _ _ _ => updR P t
  | .insert t _ _ _ => updR P t
  | .call { callee := .value fo, args := _, argTypes := _ } => if pureOp fo = true then pcallR else callR
  | .call { callee := .builtin b, args := _, argTypes := ats } => crBui P ats b
  | _ => badR
theorem crOf_sound [Sig] (o : Oper) : CrSound P (crOf P o) o := by
  unfold crOf
  split
  · exact movR_sound (by assumption)
  · exact asgR_sound (by assumption)
  · exact pickR_sound (by assumption)
  · exact binR_sound (by assumption)
  · exact unR_sound (by assumption)
  · exact cnvR_sound (by assumption)
  · exact loadR_sound (by assumption)
  · exact storeR_sound (by assumption)
  · exact allocR_sound (by assumption)
  · exact boxR_sound (by assumption)
  · exact buildR_sound (by assumption)
  · exact bslR_sound (by assumption)
  · exact mkslR_sound (by assumption)
  · exact fldR_sound (by assumption)
  · exact fvalR_sound (by assumption)
  · exact idxR_sound (by assumption)
  · exact idxvR_sound (by assumption)
  · rename_i ho
    exact orNil_sound (slNilR_sound ho) (sliceR_sound ho)
  · rename_i t _ _ _ ho
    split
    · rename_i hi
      refine slice3R_sound ho fun e he => ?_
      unfold hasInfo at hi
      rw [he] at hi
      exact hi
    · exact badR_sound o
  · exact nilcR_sound (by assumption)
  · exact extR_sound (by assumption)
  · rename_i ho
    split
    · rename_i hf
      subst hf
      exact mkfR_sound ho
    · exact badR_sound o
  · exact mkmR_sound (by assumption)
  · exact lookR_sound (by assumption)
  · rename_i m k v ho
    exact updR_sound' (x := m) (y := k) (z := v) (fun ρ => by simp only [execOp, ho]) (by rw [ho]; rfl) (fun c e => by rw [ho] at e; cases e)
  · rename_i m k v ho
    exact updR_sound' (x := m) (y := k) (z := v) (fun ρ => by simp only [execOp, ho]) (by rw [ho]; rfl) (fun c e => by rw [ho] at e; cases e)
  · split
    · exact pcallR_sound (by assumption)
    · exact callR_sound (by assumption)
  · exact crBui_sound (by assumption)
  · exact badR_sound o
end
end Go.Proofs.YtmdciljpcnokcaaGreatDoor.Ex
/-
  A run of closed code by the kernel: regions that draw their order. What holds of every order (no value in sight).
-/
namespace Go.Proofs.YtmdciljpcnokcaaGreatDoor.Ex

/-- the set L, and i -/
def also (L : Nat → Bool) (i : Nat) : Nat → Bool := fun j => j == i || L j
theorem also_same (L : Nat → Bool) (i : Nat) : also L i i = true := by simp [also]
theorem also_other {L : Nat → Bool} {i j : Nat} (h : j ≠ i) : also L i j = L j := by simp [also, h]
theorem also_of {L : Nat → Bool} {i j : Nat} (h : L j = true) : also L i j = true := by simp [also, h]
/-- on which operations one waits, whatever the compiler -/
def edgesOf (o : Oper) : List Nat := o.after.toList.filterMap fun e => if Region.binds .any e then some e.on else none
theorem mem_edges {o : Oper} {j : Nat} : j ∈ edgesOf o ↔ ∃ e ∈ o.after, Region.binds .any e = true ∧ e.on = j := by
  simp only [edgesOf, List.mem_filterMap, Array.mem_toList_iff]
  constructor
  · rintro ⟨e, he, h⟩
    split at h
    · cases h; exact ⟨e, he, by assumption, rfl⟩
    · cases h
  · rintro ⟨e, he, h1, rfl⟩
    exact ⟨e, he, by simp [h1]⟩
def Ready (ops : Array Oper) (L : Nat → Bool) (i : Nat) : Prop := ∀ o, ops[i]? = some o → ∀ j ∈ edgesOf o, L j = true
/-- an order that is let -/
def Sched (ops : Array Oper) : (Nat → Bool) → List Nat → Prop
  | L, [] => ∀ i, i < ops.size → L i = true
  | L, i :: l => i < ops.size ∧ L i = false ∧ Ready ops L i ∧ Sched ops (also L i) l
def downB (ops : Array Oper) : Bool := ops.toList.zipIdx.all fun x => (edgesOf x.1).all fun j => Nat.blt j x.2
theorem downB_spec [Sig] {ops : Array Oper} (h : downB ops = true) {i : Nat} {o : Oper} (ho : ops[i]? = some o) {j : Nat} (hj : j ∈ edgesOf o) : j < i := by
  have hm : (o, i) ∈ ops.toList.zipIdx := by
    rw [List.mem_iff_getElem?]
    exact ⟨i, by simp [List.getElem?_zipIdx, ho]⟩
  exact blt_true (List.all_eq_true.1 (List.all_eq_true.1 h _ hm) j hj)
theorem sched_go [Sig] {ops : Array Oper} (hd : downB ops = true) : ∀ (fuel t : Nat) (listed : Array Bool) (L : Nat → Bool), listed.size = ops.size → (∀ i, i < ops.size → listed[i]? = some (L i)) →
    ((List.range ops.size).filter fun i => !L i).length ≤ fuel → Sched ops L (Region.linearise.go .any ops fuel t listed []) := by
  have hnil : ∀ (listed : Array Bool) (L : Nat → Bool), listed.size = ops.size → (∀ i, i < ops.size → listed[i]? = some (L i)) → Region.ready .any ops listed = [] → ∀ n i, i < n → i < ops.size → L i = true := by
    intro listed L hs h1 hr n
    induction n with
    | zero => intro i hi; omega
    | succ n ih =>
      intro i hi his
      rcases Nat.lt_or_ge i n with h | h
      · exact ih i h his
      obtain rfl : i = n := by omega
      cases hL : L i with
      | true => rfl
      | false =>
        exfalso
        have hm : i ∈ Region.ready .any ops listed := by
          refine mem_ready.2 ⟨by simp [Array.getD_eq_getD_getElem?, h1 i his, hL], ops[i], Array.getElem?_eq_getElem his, fun e he hb => ?_⟩
          have hlt := downB_spec hd (Array.getElem?_eq_getElem his) (mem_edges.2 ⟨e, he, hb, rfl⟩)
          simp [Array.getD_eq_getD_getElem?, h1 _ (Nat.lt_trans hlt his), ih _ hlt (by omega)]
        rw [hr] at hm
        cases hm
  intro fuel
  induction fuel with
  | zero =>
    intro t listed L hs h1 hc i hi
    cases hL : L i with
    | true => rfl
    | false =>
      exfalso
      have : i ∈ (List.range ops.size).filter fun i => !L i := List.mem_filter.2 ⟨List.mem_range.2 hi, by simp [hL]⟩
      have := List.length_pos_of_mem this
      omega
  | succ fuel ih =>
    intro t listed L hs h1 hc
    simp only [Region.linearise.go]
    change Sched ops L (match (Region.ready .any ops listed)[t % (Region.ready .any ops listed).length]? with
      | some i => Region.linearise.go .any ops fuel (t / (Region.ready .any ops listed).length) (listed.setIfInBounds i true) [i]
      | none => [].reverse)
    cases hi : (Region.ready .any ops listed)[t % (Region.ready .any ops listed).length]? with
    | none =>
      have hn : Region.ready .any ops listed = [] := by
        cases hr : Region.ready .any ops listed with
        | nil => rfl
        | cons x xs =>
          rw [hr] at hi
          have hlt : t % (x :: xs).length < (x :: xs).length := Nat.mod_lt _ (by simp)
          simp at hi
          simp at hlt
          omega
      exact fun i hi => hnil listed L hs h1 hn (i + 1) i (by omega) hi
    | some i =>
      simp only []
      rw [linearise_go_acc, List.reverse_singleton, List.singleton_append]
      obtain ⟨hli, o, ho, hdep⟩ := mem_ready.1 (List.mem_of_getElem? hi)
      have his : i < ops.size := (Array.getElem?_eq_some_iff.1 ho).1
      have hLi : L i = false := by simpa [Array.getD_eq_getD_getElem?, h1 i his] using hli
      refine ⟨his, hLi, fun o' ho' j hj => ?_, ih _ _ (also L i) (by simp [hs]) (fun j hj => ?_) ?_⟩
      · rw [ho] at ho'
        cases ho'
        obtain ⟨e, he, hb, rfl⟩ := mem_edges.1 hj
        have hlt := downB_spec hd ho hj
        simpa [Array.getD_eq_getD_getElem?, h1 _ (Nat.lt_trans hlt his)] using hdep e he hb
      · by_cases hji : j = i
        · subst hji; rw [also_same]; simp [hs, hj]
        · rw [Array.getElem?_setIfInBounds_ne (fun e => hji e.symm), also_other hji]; exact h1 j hj
      · have e1 : ((List.range ops.size).filter fun j => !also L i j) = ((List.range ops.size).filter fun j => !L j).filter fun j => !(j == i) := by
          rw [List.filter_filter]
          congr 1
          funext j
          simp [also, Bool.not_or]
        have hlt : ((List.range ops.size).filter fun j => !also L i j).length < ((List.range ops.size).filter fun j => !L j).length := by
          rw [e1]
          refine Nat.lt_of_le_of_ne (List.length_filter_le _ _) fun he => ?_
          have := List.filter_eq_self.1 (List.filter_sublist.eq_of_length he) i (List.mem_filter.2 ⟨List.mem_range.2 his, by simp [hLi]⟩)
          simp at this
        omega
theorem sched_of [Sig] {ops : Array Oper} (hd : downB ops = true) (t : Nat) : Sched ops (fun _ => false) (Region.schedule true ops t) := by
  simp only [Region.schedule, Bool.true_or, if_true]
  exact sched_go hd ops.size t _ _ (by simp) (fun i hi => by simp [hi]) (Nat.le_trans (List.length_filter_le _ _) (by simp))

/-! ### What comes before what -/
inductive Bef (ops : Array Oper) : Nat → Nat → Prop
  | edge {i j : Nat} {o : Oper} : ops[i]? = some o → j ∈ edgesOf o → Bef ops j i
  | step {i j k : Nat} {o : Oper} : ops[i]? = some o → k ∈ edgesOf o → Bef ops j k → Bef ops j i
/-- with each one, all that it waits for -/
def Dc (ops : Array Oper) (L : Nat → Bool) : Prop := ∀ i o, ops[i]? = some o → L i = true → ∀ j ∈ edgesOf o, L j = true
theorem Bef.down {ops : Array Oper} {L : Nat → Bool} (hL : Dc ops L) {i j : Nat} (h : Bef ops j i) : L i = true → L j = true := by
  induction h with
  | edge ho hj => exact fun hi => hL _ _ ho hi _ hj
  | step ho hk _ ih => exact fun hi => ih (hL _ _ ho hi _ hk)
theorem Bef.ready [Sig] {ops : Array Oper} {L : Nat → Bool} (hL : Dc ops L) {i j : Nat} (h : Bef ops j i) (hr : Ready ops L i) : L j = true := by
  cases h with
  | edge ho hj => exact hr _ ho _ hj
  | step ho hk h => exact h.down hL (hr _ ho _ hk)
theorem Dc.also [Sig] {ops : Array Oper} {L : Nat → Bool} (hL : Dc ops L) {i : Nat} (hr : Ready ops L i) : Dc ops (also L i) := by
  intro k o ho hk j hj
  by_cases e : k = i
  · subst e; exact also_of (hr o ho j hj)
  · rw [also_other e] at hk; exact also_of (hL k o ho hk j hj)
def bit (m j : Nat) : Bool := Nat.beq (Nat.land (Nat.shiftRight m j) 1) 1
theorem bit_eq (m j : Nat) : bit m j = m.testBit j := by
  have : Nat.land (Nat.shiftRight m j) 1 = (m >>> j) % 2 := by
    show (m >>> j) &&& 1 = _
    exact Nat.and_one_is_mod _
  unfold bit
  rw [this, Nat.testBit_eq_decide_div_mod_eq, Nat.shiftRight_eq_div_pow]
  by_cases h : m / 2 ^ j % 2 = 1
  · rw [h]; rfl
  · rw [decide_eq_false h]
    cases hb : Nat.beq (m / 2 ^ j % 2) 1 with
    | false => rfl
    | true => exact absurd (Nat.eq_of_beq_eq_true hb) h
def maskE (acc : List Nat) : List Nat → Nat
  | [] => 0
  | j :: es => Nat.lor (Nat.lor (Nat.pow 2 j) (acc.getD j 0)) (maskE acc es)
def masksFrom (acc : List Nat) : List Oper → List Nat
  | [] => acc
  | o :: os => masksFrom (acc ++ [maskE acc (edgesOf o)]) os
theorem maskE_spec {acc : List Nat} {j : Nat} : ∀ {es : List Nat}, (maskE acc es).testBit j = true → ∃ k ∈ es, j = k ∨ (acc.getD k 0).testBit j = true
  | [], h => by simp [maskE] at h
  | k :: es, h => by
    have h : (((2 ^ k ||| acc.getD k 0) ||| maskE acc es) : Nat).testBit j = true := h
    rw [Nat.testBit_or, Nat.testBit_or, Bool.or_eq_true, Bool.or_eq_true] at h
    rcases h with (h | h) | h
    · rw [Nat.testBit_two_pow] at h
      exact ⟨k, by simp, .inl (show k = j by simpa using h).symm⟩
    · exact ⟨k, by simp, .inr h⟩
    · obtain ⟨k', h1, h2⟩ := maskE_spec h
      exact ⟨k', by simp [h1], h2⟩
theorem masksFrom_spec [Sig] {ops : Array Oper} : ∀ (os : List Oper) (acc : List Nat), (∀ j, os[j]? = ops[acc.length + j]?) → (∀ i j, i < acc.length → (acc.getD i 0).testBit j = true → Bef ops j i) →
    ∀ i j, ((masksFrom acc os).getD i 0).testBit j = true → Bef ops j i
  | [], acc, _, h2, i, j, h => by
    rcases Nat.lt_or_ge i acc.length with hl | hl
    · exact h2 i j hl h
    · have : acc[i]? = none := List.getElem?_eq_none hl
      simp [masksFrom, List.getD_eq_getElem?_getD, this] at h
  | o :: os, acc, h1, h2, i, j, h => by
    have ho : ops[acc.length]? = some o := by simpa using (h1 0).symm
    refine masksFrom_spec os _ (fun k => by have := h1 (k + 1); simpa [Nat.add_assoc, Nat.add_comm 1 k] using this) (fun i j hi hb => ?_) i j h
    rcases Nat.lt_or_ge i acc.length with hl | hl
    · refine h2 i j hl ?_
      simpa [List.getD_eq_getElem?_getD, List.getElem?_append_left hl] using hb
    · obtain rfl : i = acc.length := by simp at hi; omega
      have hb : (maskE acc (edgesOf o)).testBit j = true := by simpa [List.getD_eq_getElem?_getD] using hb
      obtain ⟨k, hk, hor⟩ := maskE_spec hb
      rcases hor with rfl | hor
      · exact .edge ho hk
      · rcases Nat.lt_or_ge k acc.length with hkl | hkl
        · exact .step ho hk (h2 k j hkl hor)
        · have : acc[k]? = none := List.getElem?_eq_none hkl
          simp [List.getD_eq_getElem?_getD, this] at hor
def masks (ops : Array Oper) : List Nat := masksFrom [] ops.toList
def befB (ops : Array Oper) (j i : Nat) : Bool := bit ((masks ops).getD i 0) j
theorem befB_spec [Sig] {ops : Array Oper} {i j : Nat} (h : befB ops j i = true) : Bef ops j i := masksFrom_spec ops.toList [] (by simp) (by simp) i j (by rw [← bit_eq]; exact h)
end Go.Proofs.YtmdciljpcnokcaaGreatDoor.Ex
/-
  A run of closed code by the kernel: one operation of a region that draws its order, by the slots at which it looks.
-/
namespace Go.Proofs.YtmdciljpcnokcaaGreatDoor.Ex
section
variable {P : Program} {n : Nat} {ops : Array Oper}
/-- the slots at which one looks are as said -/
def LocR [Sig] (ι : Inj) (n : Nat) (R : Nat → Va) (ss : List Nat) (a : Act) : Prop := a.tmps.size = n ∧ ∀ s ∈ ss, (R s).R ι (a.tmps.getD s undef)
theorem gtOf_loc [Sig] (o : Operand) {tm : Tn} {k : Va → Bool} (h : (gtOf n o).run tm k = true) : ∃ x, k x = true ∧ ∀ ι (a : Act), (∀ s, o = .tmp s → (tm.get s).R ι (a.tmps.getD s undef)) → x.R ι (a.eval o) := by
  cases o with
  | tmp t =>
    obtain ⟨h1, h2⟩ := andK_true (show andK (Nat.blt t n) (tm.getK t k) = true from h)
    exact ⟨_, Tn.getK_true h2, fun ι a ht => ht t rfl⟩
  | const v =>
    have h : (match vaV v with | some x => (⟨fun _ k => k x⟩ : Gt) | none => ⟨fun _ _ => false⟩).run tm k = true := h
    cases hv : vaV v with
    | none => rw [hv] at h; cases h
    | some x => rw [hv] at h; exact ⟨x, h, fun ι a _ => vaV_R hv ι⟩
  | global g => cases h
  | func f => exact ⟨_, h, fun ι a _ => rfl⟩
theorem evalL_loc [Sig] : ∀ {os : List Operand} {tm : Tn} {k : List Va → Bool}, evalL (os.map (gtOf n)) tm k = true →
    ∃ vs, k vs = true ∧ ∀ ι (a : Act), (∀ s, .tmp s ∈ os → (tm.get s).R ι (a.tmps.getD s undef)) → RL (fun x op => x.R ι (a.eval op)) vs os
  | [], _, _, h => ⟨[], h, fun _ _ _ => trivial⟩
  | o :: os, tm, k, h => by
    obtain ⟨x, h3, h4⟩ := gtOf_loc o (show (gtOf n o).run tm (fun v => evalL (os.map (gtOf n)) tm fun vs => k (v :: vs)) = true from h)
    obtain ⟨vs, h5, h6⟩ := evalL_loc h3
    exact ⟨x :: vs, h5, fun ι a ht => ⟨h4 ι a fun s e => ht s (by simp [e]), h6 ι a fun s hs => ht s (List.mem_cons_of_mem _ hs)⟩⟩
theorem gkOf_loc [Sig] {o : Oper} {tm : Tn} {k : Bool → Bool} (h : (gkOf n ops o.guard).run tm k = true) : ∃ t, k t = true ∧ ∀ ι (a : Act), LocR ι n tm.get (o.looksAt ops) a → Region.wanted o (yielded ops a.tmps) = t := by
  unfold gkOf at h
  unfold Region.wanted
  cases hg : o.guard with
  | none =>
    rw [hg] at h
    exact ⟨true, h, fun _ _ _ => rfl⟩
  | some g =>
    obtain ⟨j, want⟩ := g
    rw [hg] at h
    simp only at h ⊢
    cases hj : (ops[j]?).bind (·.dst) with
    | none =>
      rw [hj] at h
      exact ⟨false, h, fun ι a ht => by simp [yielded, hj]⟩
    | some d =>
      rw [hj] at h
      obtain ⟨h1, h2⟩ := andK_true h
      have hd : d < n := blt_true h1
      have h3 := Tn.getK_true h2
      obtain ⟨x, h4, h5⟩ := asS_true h3
      have hmem : d ∈ o.looksAt ops := by simp [Oper.looksAt, hg, hj]
      have key : ∀ ι (a : Act), LocR ι n tm.get (o.looksAt ops) a → ∃ v, a.tmps[d]? = some v ∧ x.R ι v := fun ι a ht => by
        have := ht.2 d hmem
        rw [h4] at this
        have hs : d < a.tmps.size := by rw [ht.1]; exact hd
        refine ⟨a.tmps[d], by simp [hs], ?_⟩
        have h' : Va.R ι (Va.s x) a.tmps[d] := by simpa [Array.getD_eq_getD_getElem?, hs] using this
        exact h'
      cases x with
      | bool b =>
        refine ⟨Bool.rec (Bool.not want) want b, h5, fun ι a ht => ?_⟩
        obtain ⟨v, e1, e2⟩ := key ι a ht
        have e2 : v = .bool b := e2
        subst e2
        simp only [yielded, hj, Option.bind_some, e1]
        cases b <;> cases want <;> rfl
      | oth ot =>
        cases ot with
        | und =>
          refine ⟨false, h5, fun ι a ht => ?_⟩
          obtain ⟨v, e1, e2⟩ := key ι a ht
          have e2 : v = undef := e2
          subst e2
          simp only [yielded, hj, Option.bind_some, e1, undef]
          rfl
        | _ => cases h5
      | _ => cases h5

/-- one operation, from each state with such slots and such a heap -/
def Goes [Sig] (P : Program) (n : Nat) (ops : Array Oper) (i : Nat) (o : Oper) (R : Nat → Va) (H : Hp) (x : Va) (H' : Hp) : Prop :=
  ∀ ι a w, LocR ι n R (o.looksAt ops) a → HR ι H w → ∀ (b : Frame) (cs : List Frame) (rest : List Nat) (ks : List Item),
    ∃ v w' ι', Ext ι H w ι' H' w' ∧ HR ι' H' w' ∧ x.R ι' v ∧ Steps P (lone (b.atR a (.inRegion ops (i :: rest) :: ks)) cs w) (lone (b.atR (a.put o.dst v) (.inRegion ops rest :: ks)) cs w')
theorem Goes.congr [Sig] {i : Nat} {o : Oper} {R R' : Nat → Va} {H H' : Hp} {x : Va} (h : Goes P n ops i o R H x H') (he : ∀ s ∈ o.looksAt ops, R s = R' s) : Goes P n ops i o R' H x H' :=
  fun ι a w hl hH => h ι a w ⟨hl.1, fun s hs => by rw [he s hs]; exact hl.2 s hs⟩ hH
/-- what one operation yields -/
noncomputable def valC (P : Program) (n : Nat) (ops : Array Oper) (o : Oper) (D : Dt) (tm : Tn) (H : Hp) (k : Va → Hp → Bool) : Bool :=
  (gkOf n ops o.guard).run tm fun t => Bool.rec (k (.s (.oth .und)) H) (evalL (o.op.operands.toList.map (gtOf n)) tm fun vs => (crOf P o).run D vs H k) t
theorem valC_goes [Sig] {i : Nat} {o : Oper} (ho : ops[i]? = some o) {D : Dt} (hD : DS P D) {tm : Tn} {H : Hp} {k : Va → Hp → Bool} (h : valC P n ops o D tm H k = true) : ∃ x H', k x H' = true ∧ Goes P n ops i o tm.get H x H' := by
  obtain ⟨t, h1, ht⟩ := gkOf_loc h
  cases t with
  | false =>
    refine ⟨_, H, h1, fun ι a w hl hH b cs rest ks => ⟨undef, w, ι, Ext.refl _ _ _, hH, rfl, .one ?_⟩⟩
    have := stepR_op_skip (P := P) (b := b) (a := a) (k := ks) (cs := cs) (w := w) (ops := ops) (i := i) (rest := rest) (by rw [ho]; simp [ht ι a hl])
    rw [ho] at this
    exact this
  | true =>
    obtain ⟨vs, h2, hvs⟩ := evalL_loc (show evalL (o.op.operands.toList.map (gtOf n)) tm (fun vs => (crOf P o).run D vs H k) = true from h1)
    obtain ⟨x, H', h3, hop⟩ := crOf_sound o D vs H _ hD h2
    refine ⟨x, H', h3, fun ι a w hl hH b cs rest ks => ?_⟩
    have hvs' := hvs ι a fun s hs => hl.2 s (by
      unfold Oper.looksAt
      refine List.mem_append_left _ (List.mem_filterMap.2 ⟨_, hs, rfl⟩))
    obtain ⟨v, w', ⟨ι', hE, hH', hv⟩, hs⟩ := hop ι w a.eval hvs' hH b a cs ops i rest ks ho (ht ι a hl) rfl
    exact ⟨v, w', ι', hE, hH', hv, hs⟩
/-- a rule that leaves the heap as it is -/
def CrStill (c : Cr) : Prop := ∀ D vs H k, c.run D vs H k = c.run D vs H fun x _ => k x H
def CrStillD [Sig] (P : Program) (c : Cr) : Prop := ∀ D, DS P D → ∀ vs H k, c.run D vs H k = c.run D vs H fun x _ => k x H
theorem CrStill.d [Sig] {P : Program} {c : Cr} (h : CrStill c) : CrStillD P c := fun D _ => h D
theorem valC_still [Sig] {i : Nat} {o : Oper} (ho : ops[i]? = some o) (hst : CrStillD P (crOf P o)) {D : Dt} (hD : DS P D) {tm : Tn} {H : Hp} {k : Va → Hp → Bool} (h : valC P n ops o D tm H k = true) : ∃ x, k x H = true ∧ Goes P n ops i o tm.get H x H := by
  have e0 : ∀ k, valC P n ops o D tm H k = valC P n ops o D tm H fun x _ => k x H := by
    intro k
    unfold valC
    refine congrArg _ (funext fun t => ?_)
    cases t with
    | false => rfl
    | true => exact congrArg _ (funext fun vs => hst D hD vs H k)
  classical
  have h2 : valC P n ops o D tm H (fun x H' => k x H && decide (H' = H)) = true := by
    rw [e0]
    rw [e0] at h
    simpa using h
  obtain ⟨x, H', h3, h4⟩ := valC_goes ho hD h2
  obtain ⟨h5, h6⟩ := Bool.and_eq_true_iff.1 h3
  have h6 : H' = H := of_decide_eq_true h6
  subst h6
  exact ⟨x, h5, h4⟩

/-! ### One more block, whenever it is made -/
def Named (H : Hp) (ob : Ob) (H' : Hp) : Prop := H'.nx = H.nx + 1 ∧ H'.t.get H.nx = some ob ∧ ∀ m, m ≠ H.nx → H'.t.get m = H.t.get m
def Made [Sig] (id : Nat) (ob : Ob) (x : Va) (v : Value) (z : Loc) (obj : Obj) : Prop := ∀ ι' w', ι'.loc id = some z → w'.heap[z.block]? = some obj → ob.R ι' w' id ∧ x.R ι' v
def FreeGoes [Sig] (P : Program) (n : Nat) (ops : Array Oper) (i : Nat) (o : Oper) (R : Nat → Va) (H : Hp) (x : Va) (H' : Hp) : Prop :=
  ∃ ob, Named H ob H' ∧ ∀ ι a w, LocR ι n R (o.looksAt ops) a → ∀ (b : Frame) (cs : List Frame) (rest : List Nat) (ks : List Item),
    ∃ v obj room, Made H.nx ob x v ⟨w.heap.size, 0, room⟩ obj ∧ Steps P (lone (b.atR a (.inRegion ops (i :: rest) :: ks)) cs w) (lone (b.atR (a.put o.dst v) (.inRegion ops rest :: ks)) cs (w.alloc obj))
theorem FreeGoes.congr [Sig] {i : Nat} {o : Oper} {R R' : Nat → Va} {H H' : Hp} {x : Va} (h : FreeGoes P n ops i o R H x H') (he : ∀ s ∈ o.looksAt ops, R s = R' s) : FreeGoes P n ops i o R' H x H' := by
  obtain ⟨ob, h1, h2⟩ := h
  exact ⟨ob, h1, fun ι a w hl => h2 ι a w ⟨hl.1, fun s hs => by rw [he s hs]; exact hl.2 s hs⟩⟩
def CrFree [Sig] (P : Program) (c : Cr) (o : Oper) : Prop := ∀ D vs H k, c.run D vs H k = true → ∃ x H' ob, k x H' = true ∧ Named H ob H' ∧
  ∀ ι w (ρ : Operand → Value), RL (fun x op => x.R ι (ρ op)) vs o.op.operands.toList → ∃ v obj room, Made H.nx ob x v ⟨w.heap.size, 0, room⟩ obj ∧ (execOp ρ o).run P w = .ok (.value v) (w.alloc obj)
theorem valC_free [Sig] {i : Nat} {o : Oper} (ho : ops[i]? = some o) (hg : o.guard = none) (hd : ∀ c, o.op ≠ .defer c) (hf : CrFree P (crOf P o) o) {D : Dt} {tm : Tn} {H : Hp} {k : Va → Hp → Bool} (h : valC P n ops o D tm H k = true) :
    ∃ x H', k x H' = true ∧ FreeGoes P n ops i o tm.get H x H' := by
  unfold valC at h
  rw [hg] at h
  obtain ⟨vs, h2, hvs⟩ := evalL_loc (show evalL (o.op.operands.toList.map (gtOf n)) tm (fun vs => (crOf P o).run D vs H k) = true from h)
  obtain ⟨x, H', ob, h3, h4, h5⟩ := hf D vs H k h2
  refine ⟨x, H', h3, ob, h4, fun ι a w hl b cs rest ks => ?_⟩
  have hvs' := hvs ι a fun s hs => hl.2 s (by
    unfold Oper.looksAt
    refine List.mem_append_left _ (List.mem_filterMap.2 ⟨_, hs, rfl⟩))
  obtain ⟨v, obj, room, h6, h7⟩ := h5 ι w a.eval hvs'
  refine ⟨v, obj, room, h6, .one ?_⟩
  have hw : Region.wanted o (yielded ops a.tmps) = true := by simp [Region.wanted, hg]
  have hgs := stepGR_op (P := P) (b := b) (a := a) (k := ks) (cs := cs) (w := w) (rest := rest) ho hw
  refine step_lone_go ?_
  rw [hgs, Oper.semAt_eq _ _ _ hd]
  simp only [stepG.apply, Sem.runT_eq, h7, GStep.bare_after, if_true]
  have hf := Frame.finish_atR b a ops i rest ks v
  rw [ho] at hf
  simp only [Option.bind_some] at hf
  rw [hf]
  rfl
theorem newK_named [Sig] {e : Nat} {l : List Sc} {H : Hp} {k : Nat → Hp → Bool} (h : newK e l H k = true) : ∃ H', k H.nx H' = true ∧ Named H (.cells l false (some e)) H' := by
  rw [newK_eq] at h
  obtain ⟨t', h1, h2, h3⟩ := Tr.setK_true h
  exact ⟨_, h1, rfl, h2, h3⟩
/-- cells without anything in them: they tell of no block -/
def Plain [Sig] (l : List Sc) (c : Array Value) : Prop := l.length ≤ c.size ∧ ∀ ι, RL (CR ι) l (c.toList.take l.length)
theorem made_cells [Sig] {id e : Nat} {l : List Sc} {c : Array Value} {f : Nat × Nat} {b : Nat} (h : Plain l c) (hf : ∀ i, i < c.size → ¬ (f.1 ≤ i ∧ i < f.2)) {ι : Inj} {w : World} (hi : ι.loc id = some ⟨b, 0, c.size⟩) (hw : w.heap[b]? = some (.cells c e f)) :
    Ob.R ι w id (.cells l false (some e)) := by
  refine ⟨_, c, e, f, hi, hw, ⟨by simp, fun t ht => by cases ht; exact ⟨rfl, rfl⟩⟩, h.1, fun i y hy => ?_, fun _ => hf⟩
  obtain ⟨v, h4, h5⟩ := (h.2 ι).get i y hy
  rw [List.getElem?_take] at h4
  split at h4
  · exact ⟨v, by simpa using h4, h5⟩
  · cases h4
theorem allocR_free [Sig] {o : Oper} {t : TypeId} (ho : o.op = .alloc t) : CrFree P (allocR P t) o := by
  unfold allocR
  split
  case h_2 => intro D vs H k h; cases h
  rename_i l hz
  obtain ⟨i, z, hi, hz, hR⟩ := zeroOf_spec hz
  intro D vs H k h
  match vs, h with
  | [], h =>
    obtain ⟨H', h1, h2⟩ := newK_named (show newK t l H (fun b H' => k (.s (.ptr b 0)) H') = true from h)
    refine ⟨_, H', _, h1, h2, fun ι w ρ _ => ?_⟩
    have hpl : Plain l z.cells := ⟨by have := (hR ι).length; simp at this; omega, fun ι => by
      rw [(hR ι).length, List.take_length]; exact hR ι⟩
    refine ⟨.pointer (some ⟨w.heap.size, 0, none⟩), .cells z.cells t (0, 0), z.cells.size, fun ι' w' e1 e2 => ⟨made_cells hpl (fun i _ => by simp) e1 e2, _, e1, rfl⟩, ?_⟩
    simp [execOp, ho, Instr.alloc, zeroValue, typeInfo, hi, hz, newVar, newRow]
  | _ :: _, h => cases h
theorem mkslR_free [Sig] {o : Oper} {t : TypeId} {x y : Operand} (ho : o.op = .makeSlice t x y) : CrFree P (mkslR P t) o := by
  unfold mkslR
  split
  case h_2 => intro D vs H k h; cases h
  rename_i e hu
  split
  case h_2 => intro D vs H k h; cases h
  rename_i i zl hi hz
  split
  case isFalse => intro D vs H k h; cases h
  rename_i hzl
  obtain ⟨i', z, hi', hzv, hzR⟩ := zeroOf_spec hz
  rw [hi] at hi'
  cases hi'
  intro D vs H k h
  obtain ⟨u, v, rfl, h1⟩ := arg2_true h
  obtain ⟨kl, l, rfl, h2⟩ := asI_true h1
  obtain ⟨kc, c, rfl, h3⟩ := asI_true h2
  obtain ⟨l, rfl, h4⟩ := asNat_true h3
  obtain ⟨c, rfl, h5⟩ := asNat_true h4
  obtain ⟨h6, h7⟩ := andK_true h5
  obtain ⟨h8, h9⟩ := andK_true h7
  obtain ⟨h10, h11⟩ := andK_true h9
  have h12 := repK_true h11
  obtain ⟨H', h13, h14⟩ := newK_named h12
  have hlc := ble_true h6
  have hby : i.bytes * c ≤ 281474976710656 := ble_true h8
  have hcm := ble_true h10
  refine ⟨_, H', _, h13, h14, fun ι w ρ hv => ?_⟩
  have e0 : o.op.operands.toList = [x, y] := by rw [ho]; rfl
  rw [e0] at hv
  have e1 : ρ x = .int (kOf kl) (Int.ofNat l) := hv.1
  have e2 : ρ y = .int (kOf kc) (Int.ofNat c) := hv.2.1
  have hzs : z.cells.size = i.size := by have := (hzR ι).length; simp at this; omega
  have hb' : (i.bytes : Int) * (Int.ofNat c) ≤ 281474976710656 := by
    have := Int.ofNat_le.2 hby
    simpa using this
  have hrun := run_make (P := P) w t e i z hu hi hzv (kOf kl) (kOf kc) (Int.ofNat l) (Int.ofNat c) (Int.natCast_nonneg l) (Int.ofNat_le.2 hlc) hb' (by have := Int.ofNat_le.2 hcm; simp at this ⊢; omega)
  have hpl : Plain (List.replicate c zl).flatten (madeCells z.cells (c * i.size)) := ⟨by rw [size_madeCells, flat_len, hzl]; exact Nat.le_refl _, fun ι => by
    rw [flat_len, hzl, List.take_of_length_le (by rw [Array.length_toList, size_madeCells]; exact Nat.le_refl _)]
    have hR := made_R (hzR ι) c
    rw [hzs] at hR
    exact hR⟩
  refine ⟨.slice (some ⟨w.heap.size, 0, none⟩) l c, .cells (madeCells z.cells (c * i.size)) e (0, 0), (madeCells z.cells (c * i.size)).size, fun ι' w' e3 e4 => ⟨made_cells hpl (fun i _ => by simp) e3 e4, _, c, e3, rfl, hlc, by show 0 + c * i.size ≤ (madeCells z.cells (c * i.size)).size; rw [size_madeCells]; omega, fun k' e => by cases e; rfl⟩, ?_⟩
  simp only [execOp, ho, e1, e2]
  rw [Sem.run_bind, hrun]
  rfl
end
end Go.Proofs.YtmdciljpcnokcaaGreatDoor.Ex
/-
  A run of closed code by the kernel: operations that leave the heap as it is; values compared.
-/
namespace Go.Proofs.YtmdciljpcnokcaaGreatDoor.Ex
section
variable {P : Program}
theorem bad_still : CrStill badR := fun _ _ _ _ => rfl
theorem fldR_still (t : TypeId) (f : Nat) : CrStill (fldR P t f) := by unfold fldR; (first | exact fun _ _ _ _ => rfl | (split <;> first | exact fun _ _ _ _ => rfl | (split <;> first | exact fun _ _ _ _ => rfl | (split <;> first | exact fun _ _ _ _ => rfl | (split <;> exact fun _ _ _ _ => rfl)))))
theorem addP_still (i : Nat) : CrStill (addP i) := fun _ _ _ _ => rfl
theorem idxR_still (t : TypeId) : CrStill (idxR P t) := by unfold idxR; (first | exact fun _ _ _ _ => rfl | (split <;> first | exact fun _ _ _ _ => rfl | (split <;> first | exact fun _ _ _ _ => rfl | (split <;> first | exact fun _ _ _ _ => rfl | (split <;> exact fun _ _ _ _ => rfl)))))
theorem fvalR_still (t : TypeId) (f : Nat) : CrStill (fvalR P t f) := by unfold fvalR valR; (first | exact fun _ _ _ _ => rfl | (split <;> first | exact fun _ _ _ _ => rfl | (split <;> first | exact fun _ _ _ _ => rfl | (split <;> first | exact fun _ _ _ _ => rfl | (split <;> exact fun _ _ _ _ => rfl)))))
theorem idxvR_still (t : TypeId) : CrStill (idxvR P t) := by unfold idxvR; (first | exact fun _ _ _ _ => rfl | (split <;> first | exact fun _ _ _ _ => rfl | (split <;> first | exact fun _ _ _ _ => rfl | (split <;> first | exact fun _ _ _ _ => rfl | (split <;> exact fun _ _ _ _ => rfl)))))
theorem sliceR_still (t : TypeId) (lo hi : Bool) : CrStill (sliceR P t lo hi) := by unfold sliceR; (first | exact fun _ _ _ _ => rfl | (split <;> first | exact fun _ _ _ _ => rfl | (split <;> first | exact fun _ _ _ _ => rfl | (split <;> first | exact fun _ _ _ _ => rfl | (split <;> exact fun _ _ _ _ => rfl)))))
theorem slNilR_still (t : TypeId) (lo hi : Bool) : CrStill (slNilR P t lo hi) := by unfold slNilR; (first | exact fun _ _ _ _ => rfl | (split <;> first | exact fun _ _ _ _ => rfl | (split <;> first | exact fun _ _ _ _ => rfl | (split <;> first | exact fun _ _ _ _ => rfl | (split <;> exact fun _ _ _ _ => rfl)))))
theorem orNil_still {a b : Cr} (ha : CrStill a) (hb : CrStill b) : CrStill (orNil a b) := by
  intro D vs H k
  have ha := ha D vs H k
  have hb := hb D vs H k
  cases vs with
  | nil => rfl
  | cons x vs =>
    cases x with
    | s y =>
      cases y with
      | oth o => cases o <;> first | exact hb | exact ha
      | _ => exact hb
    | g => exact hb
    | t => exact hb
theorem slice3R_still (t : TypeId) : CrStill (slice3R P t) := by unfold slice3R; (first | exact fun _ _ _ _ => rfl | (split <;> first | exact fun _ _ _ _ => rfl | (split <;> first | exact fun _ _ _ _ => rfl | (split <;> first | exact fun _ _ _ _ => rfl | (split <;> exact fun _ _ _ _ => rfl)))))
theorem buildR_still (t : TypeId) (is : List Nat) : CrStill (buildR P t is) := by unfold buildR; (first | exact fun _ _ _ _ => rfl | (split <;> first | exact fun _ _ _ _ => rfl | (split <;> first | exact fun _ _ _ _ => rfl | (split <;> first | exact fun _ _ _ _ => rfl | (split <;> exact fun _ _ _ _ => rfl)))))
theorem lenR_still (t : TypeId) : CrStill (lenR P t) := by unfold lenR; (first | exact fun _ _ _ _ => rfl | (split <;> first | exact fun _ _ _ _ => rfl | (split <;> first | exact fun _ _ _ _ => rfl | (split <;> first | exact fun _ _ _ _ => rfl | (split <;> exact fun _ _ _ _ => rfl)))))
theorem mmR_still (b : Bool) : CrStill (mmR b) := fun _ _ _ _ => rfl
theorem loadR_still (t : TypeId) : CrStill (loadR P t) := by unfold loadR; (first | exact fun _ _ _ _ => rfl | (split <;> first | exact fun _ _ _ _ => rfl | (split <;> first | exact fun _ _ _ _ => rfl | (split <;> first | exact fun _ _ _ _ => rfl | (split <;> exact fun _ _ _ _ => rfl)))))
theorem lookR_still (t : TypeId) (ok : Bool) : CrStill (lookR P t ok) := by unfold lookR; (first | exact fun _ _ _ _ => rfl | (split <;> first | exact fun _ _ _ _ => rfl | (split <;> first | exact fun _ _ _ _ => rfl | (split <;> first | exact fun _ _ _ _ => rfl | (split <;> exact fun _ _ _ _ => rfl)))))
theorem unR_still (op : UnOp) : CrStill (unR op) := by cases op <;> exact fun _ _ _ _ => rfl
theorem eqlR_still (t : TypeId) : CrStill (eqlR P t) := by unfold eqlR; (first | exact fun _ _ _ _ => rfl | (split <;> first | exact fun _ _ _ _ => rfl | (split <;> first | exact fun _ _ _ _ => rfl | (split <;> first | exact fun _ _ _ _ => rfl | (split <;> exact fun _ _ _ _ => rfl)))))
theorem neqR_still (t : TypeId) : CrStill (neqR P t) := by unfold neqR; (first | exact fun _ _ _ _ => rfl | (split <;> first | exact fun _ _ _ _ => rfl | (split <;> first | exact fun _ _ _ _ => rfl | (split <;> first | exact fun _ _ _ _ => rfl | (split <;> exact fun _ _ _ _ => rfl)))))
theorem crBin_still [Sig] (t : TypeId) (op : BinOp) : CrStill (crBin P t op) := by
  cases op with
  | eql => exact eqlR_still t
  | neq => exact neqR_still t
  | _ => exact fun _ _ _ _ => rfl
theorem eqaR_still (t : TypeId) (pos : Bool) : CrStill (eqaR P t pos) := by
  unfold eqaR
  cases plainB P t <;> exact fun _ _ _ _ => rfl
theorem orAgg_still {a b : Cr} (ha : CrStill a) (hb : CrStill b) : CrStill (orAgg a b) := by
  intro D vs H k
  cases vs with
  | nil => rfl
  | cons x vs =>
    cases x with
    | s y => exact hb D _ H k
    | g y => exact ha D _ H k
    | t y => exact hb D _ H k
theorem binR_still [Sig] (t : TypeId) (op : BinOp) : CrStill (binR P t op) := by
  cases op with
  | eql => exact orAgg_still (eqaR_still _ _) (crBin_still _ _)
  | neq => exact orAgg_still (eqaR_still _ _) (crBin_still _ _)
  | _ => exact fun _ _ _ _ => rfl
def cnvStillB (P : Program) (d : TypeId) : Bool := match P.underlying d with
  | some (.slice _) => false
  | _ => true
theorem cnvR_still [Sig] {s d : TypeId} (h : cnvStillB P d = true) : CrStill (cnvR P s d) := by
  unfold cnvR
  split
  · exact fun _ _ _ _ => rfl
  · exact fun _ _ _ _ => rfl
  · (first | exact fun _ _ _ _ => rfl | (split <;> first | exact fun _ _ _ _ => rfl | (split <;> first | exact fun _ _ _ _ => rfl | (split <;> first | exact fun _ _ _ _ => rfl | (split <;> exact fun _ _ _ _ => rfl)))))
  · rename_i h1 h2
    simp [cnvStillB, h2] at h
  · exact bad_still
def stillB (P : Program) (o : Oper) : Bool :=
  match o.op with
  | .move _ => true
  | .assign _ => true
  | .pick _ _ _ => true
  | .binOp _ _ _ _ _ => true
  | .unOp _ _ _ => true
  | .convert _ d _ => cnvStillB P d
  | .load _ _ => true
  | .build _ _ => true
  | .fieldAddr _ _ _ => true
  | .field _ _ _ => true
  | .indexAddr _ _ _ => true
  | .index _ _ _ => true
  | .slice _ _ _ _ _ => true
  | .nilCheck _ => true
  | .extract _ _ => true
  | .lookup _ _ _ _ => true
  | .call { callee := .builtin .len, args := _, argTypes := _ } => true
  | .call { callee := .builtin .max, args := _, argTypes := _ } => true
  | .call { callee := .builtin .min, args := _, argTypes := _ } => true
  | .call { callee := .value fo, args := _, argTypes := _ } => pureOp fo
  | _ => false
theorem pcallR_still [Sig] : CrStillD P pcallR := by
  intro D hD vs H k
  cases vs with
  | nil => rfl
  | cons fv vs =>
    cases fv with
    | s x =>
      cases x with
      | oth o =>
        cases o with
        | fn0 f =>
          show andK (pureF f) (D (.fn f) vs H k) = andK (pureF f) (D (.fn f) vs H fun x _ => k x H)
          cases hp : pureF f with
          | false => rfl
          | true => rw [hD.pu f hp vs H k]
        | _ => rfl
      | _ => rfl
    | g => rfl
    | t => rfl
theorem stillB_sound [Sig] {o : Oper} (h : stillB P o = true) : CrStillD P (crOf P o) := by
  unfold crOf
  unfold stillB at h
  split
  case h_1 => exact fun _ _ _ _ _ => rfl
  case h_2 => exact fun _ _ _ _ _ => rfl
  case h_3 => exact fun _ _ _ _ _ => rfl
  case h_4 => exact (binR_still _ _).d
  case h_5 => exact (unR_still _).d
  case h_6 => rename_i ho; rw [ho] at h; exact (cnvR_still h).d
  case h_7 => exact (loadR_still _).d
  case h_8 => rename_i ho; rw [ho] at h; cases h
  case h_9 => rename_i ho; rw [ho] at h; cases h
  case h_10 => rename_i ho; rw [ho] at h; cases h
  case h_11 => exact (buildR_still _ _).d
  case h_12 => rename_i ho; rw [ho] at h; cases h
  case h_13 => rename_i ho; rw [ho] at h; cases h
  case h_14 => exact (fldR_still _ _).d
  case h_15 => exact (fvalR_still _ _).d
  case h_16 => exact (idxR_still _).d
  case h_17 => exact (idxvR_still _).d
  case h_18 => exact (orNil_still (slNilR_still _ _ _) (sliceR_still _ _ _)).d
  case h_19 => split; exact (slice3R_still _).d; exact bad_still.d
  case h_20 => exact fun _ _ _ _ _ => rfl
  case h_21 => exact fun _ _ _ _ _ => rfl
  case h_22 => rename_i ho; rw [ho] at h; cases h
  case h_23 => rename_i ho; rw [ho] at h; cases h
  case h_24 => exact (lookR_still _ _).d
  case h_25 => rename_i ho; rw [ho] at h; cases h
  case h_26 => rename_i ho; rw [ho] at h; cases h
  case h_27 =>
    rename_i fo args ats ho
    rw [ho] at h
    have h : pureOp fo = true := h
    rw [if_pos h]
    exact pcallR_still
  case h_28 =>
    rename_i b args ats ho
    rw [ho] at h
    cases b with
    | len =>
      show CrStillD P (match ats[0]? with
        | some t => lenR P t
        | none => badR)
      split
      · exact (lenR_still _).d
      · exact bad_still.d
    | max => exact (mmR_still true : CrStill (mmR true)).d
    | min => exact (mmR_still false : CrStill (mmR false)).d
    | _ => cases h
  case h_29 => exact (bad_still).d
theorem bslR_free [Sig] {o : Oper} {t : TypeId} {len : Nat} {parts : Array (Nat × Operand)} (ho : o.op = .buildSlice t len parts) (hp : ∀ e, P.underlying t = some (.slice e) → plainE P e = true) : CrFree P (bslR P t len (parts.toList.map (·.1))) o := by
  unfold bslR
  split
  case h_2 => intro D vs H k h; cases h
  rename_i e hu
  split
  case h_2 => intro D vs H k h; cases h
  rename_i i zl hi hz
  split
  case isFalse => intro D vs H k h; cases h
  rename_i hc
  obtain ⟨hzl, hlim⟩ := hc
  obtain ⟨i', z, hi', hzv, hzR⟩ := zeroOf_spec hz
  rw [hi] at hi'
  cases hi'
  intro D vs H k h
  have h1 := repK_true h
  obtain ⟨l, h2, hll, h3⟩ := fillK_true (fun j => some (j * i.size, i.size)) h1
  rw [hp e hu] at h2
  obtain ⟨h4, h5⟩ := andK_true (show andK (plainL l) (newK e l H fun b H' => k (.s (.sl b 0 len i.size (some len))) H') = true from h2)
  obtain ⟨H', h6, h7⟩ := newK_named h5
  refine ⟨_, H', _, h6, h7, fun ι w ρ hv => ?_⟩
  have e0 : o.op.operands.toList = parts.toList.map (·.2) := by rw [ho]; simp [Op.operands]
  rw [e0] at hv
  have hu' : RL (Va.R ι) vs (parts.toList.map fun p => ρ p.2) := by
    have : parts.toList.map (fun p => ρ p.2) = (parts.toList.map (·.2)).map ρ := by simp
    rw [this]
    exact RL_map_right hv
  have hzs : z.cells.size = i.size := by have := (hzR ι).length; simp at this; omega
  have hR := made_R (hzR ι) len
  rw [hzs] at hR
  obtain ⟨cells', e1, e2⟩ := h3 ι _ (parts.toList.map (·.1)) (madeCells z.cells (len * i.size)) (by simp) hu' hR
  have hcl : l.length = cells'.size := by simpa using e2.length
  have hpl : Plain l cells' := ⟨by omega, fun ι' => by
    rw [List.take_of_length_le (by simp; omega)]
    exact plainL_R h4 e2⟩
  have hsz : len * i.size ≤ cells'.size := by rw [← hcl, hll, flat_len, hzl]; exact Nat.le_refl _
  refine ⟨.slice (some ⟨w.heap.size, 0, none⟩) len len, .cells cells' e (0, 0), cells'.size, fun ι' w' e3 e4 => ⟨made_cells hpl (fun i _ => by simp) e3 e4, _, len, e3, rfl, Nat.le_refl _, by show 0 + len * i.size ≤ cells'.size; omega, fun k' e => by cases e; rfl⟩, ?_⟩
  exact bsl_exec ho hu hi hzv hlim e1
def plainT (P : Program) (t : TypeId) : Bool := match P.underlying t with
  | some (.slice e) => plainE P e
  | _ => true
def freeB (P : Program) (o : Oper) : Bool :=
  match o.op with
  | .alloc _ => true
  | .makeSlice _ _ _ => true
  | .buildSlice t _ _ => plainT P t
  | _ => false
theorem freeB_sound [Sig] {o : Oper} (h : freeB P o = true) : CrFree P (crOf P o) o ∧ ∀ c, o.op ≠ .defer c := by
  unfold freeB at h
  split at h
  · rename_i t ho
    have : crOf P o = allocR P t := by unfold crOf; rw [ho]
    rw [this]
    exact ⟨allocR_free ho, fun c e => by rw [ho] at e; cases e⟩
  · rename_i t x y ho
    have : crOf P o = mkslR P t := by unfold crOf; rw [ho]
    rw [this]
    exact ⟨mkslR_free ho, fun c e => by rw [ho] at e; cases e⟩
  · rename_i t n parts ho
    have : crOf P o = bslR P t n (parts.toList.map (·.1)) := by unfold crOf; rw [ho]
    rw [this]
    refine ⟨bslR_free ho fun e he => ?_, fun c e => by rw [ho] at e; cases e⟩
    unfold plainT at h
    rw [he] at h
    exact h
  · cases h
end

/-! ### Values compared -/
noncomputable def eqB (a b : Bool) : Bool := Bool.rec (Bool.rec true false b) b a
theorem eqB_true {a b : Bool} (h : eqB a b = true) : a = b := by cases a <;> cases b <;> first | rfl | cases h
noncomputable def eqOt (a b : Ot) : Bool :=
  Ot.rec (Ot.rec true false false false false false (fun _ => false) (fun _ _ => false) (fun _ => false) (fun _ => false) false (fun _ => false) b)
    false
    (Ot.rec false false true false false false (fun _ => false) (fun _ _ => false) (fun _ => false) (fun _ => false) false (fun _ => false) b)
    (Ot.rec false false false true false false (fun _ => false) (fun _ _ => false) (fun _ => false) (fun _ => false) false (fun _ => false) b)
    (Ot.rec false false false false true false (fun _ => false) (fun _ _ => false) (fun _ => false) (fun _ => false) false (fun _ => false) b)
    (Ot.rec false false false false false true (fun _ => false) (fun _ _ => false) (fun _ => false) (fun _ => false) false (fun _ => false) b)
    (fun f => Ot.rec false false false false false false (fun f' => Nat.beq f f') (fun _ _ => false) (fun _ => false) (fun _ => false) false (fun _ => false) b)
    (fun f c => Ot.rec false false false false false false (fun _ => false) (fun f' c' => andK (Nat.beq f f') (Nat.beq c c')) (fun _ => false) (fun _ => false) false (fun _ => false) b)
    (fun _ => false)
    (fun m => Ot.rec false false false false false false (fun _ => false) (fun _ _ => false) (fun _ => false) (fun m' => Nat.beq m m') false (fun _ => false) b)
    (Ot.rec false false false false false false (fun _ => false) (fun _ _ => false) (fun _ => false) (fun _ => false) true (fun _ => false) b)
    (fun d => Ot.rec false false false false false false (fun _ => false) (fun _ _ => false) (fun _ => false) (fun _ => false) false (fun d' => Nat.beq d d') b) a
theorem eqOt_true [Sig] {a b : Ot} (h : eqOt a b = true) : a = b := by
  cases a with
  | fn0 f => cases b <;> first | cases h | exact congrArg _ (beq_true h)
  | fn f c =>
    cases b <;> first | (cases h; done) | skip
    rename_i f' c'
    obtain ⟨h1, h2⟩ := andK_true (show andK (Nat.beq f f') (Nat.beq c c') = true from h)
    rw [beq_true h1, beq_true h2]
  | map m => cases b <;> first | (cases h; done) | exact congrArg _ (beq_true h)
  | byt d => cases b <;> first | (cases h; done) | exact congrArg _ (beq_true h)
  | yld _ => cases h
  | unk => cases h
  | _ => cases b <;> first | rfl | cases h
noncomputable def eqInt (a b : Int) : Bool := Int.rec (fun n => Int.rec (fun m => Nat.beq n m) (fun _ => false) b) (fun n => Int.rec (fun _ => false) (fun m => Nat.beq n m) b) a
theorem eqInt_true [Sig] {a b : Int} (h : eqInt a b = true) : a = b := by
  cases a <;> cases b <;> first | (cases h; done) | exact congrArg _ (beq_true h)
noncomputable def eqON (a b : Option Nat) : Bool := Option.rec (Option.rec true (fun _ => false) b) (fun n => Option.rec false (fun m => Nat.beq n m) b) a
theorem eqON_true [Sig] {a b : Option Nat} (h : eqON a b = true) : a = b := by
  cases a <;> cases b <;> first | rfl | (cases h; done) | exact congrArg _ (beq_true h)
noncomputable def eqSc (a b : Sc) : Bool :=
  Sc.rec (fun k n => Sc.rec (fun k' n' => andK (Nat.beq k k') (eqInt n n')) (fun _ _ => false) (fun _ _ => false) (fun _ => false) (fun _ _ _ _ _ => false) (fun _ => false) b)
    (fun l n => Sc.rec (fun _ _ => false) (fun l' n' => andK (Nat.beq l l') (Nat.beq n n')) (fun _ _ => false) (fun _ => false) (fun _ _ _ _ _ => false) (fun _ => false) b)
    (fun l n => Sc.rec (fun _ _ => false) (fun _ _ => false) (fun l' n' => andK (Nat.beq l l') (Nat.beq n n')) (fun _ => false) (fun _ _ _ _ _ => false) (fun _ => false) b)
    (fun x => Sc.rec (fun _ _ => false) (fun _ _ => false) (fun _ _ => false) (fun y => eqB x y) (fun _ _ _ _ _ => false) (fun _ => false) b)
    (fun p q r s c => Sc.rec (fun _ _ => false) (fun _ _ => false) (fun _ _ => false) (fun _ => false) (fun p' q' r' s' c' => andK (Nat.beq p p') (andK (Nat.beq q q') (andK (Nat.beq r r') (andK (Nat.beq s s') (eqON c c'))))) (fun _ => false) b)
    (fun x => Sc.rec (fun _ _ => false) (fun _ _ => false) (fun _ _ => false) (fun _ => false) (fun _ _ _ _ _ => false) (fun y => eqOt x y) b) a
theorem eqSc_true [Sig] {a b : Sc} (h : eqSc a b = true) : a = b := by
  cases a with
  | int k n =>
    cases b <;> first | (cases h; done) | skip
    obtain ⟨h1, h2⟩ := andK_true h
    rw [beq_true h1, eqInt_true h2]
  | str k n =>
    cases b <;> first | (cases h; done) | skip
    obtain ⟨h1, h2⟩ := andK_true h
    rw [beq_true h1, beq_true h2]
  | ptr k n =>
    cases b <;> first | (cases h; done) | skip
    obtain ⟨h1, h2⟩ := andK_true h
    rw [beq_true h1, beq_true h2]
  | bool x => cases b <;> first | (cases h; done) | exact congrArg _ (eqB_true h)
  | sl p q r s c =>
    cases b <;> first | (cases h; done) | skip
    obtain ⟨h1, h2⟩ := andK_true h
    obtain ⟨h3, h4⟩ := andK_true h2
    obtain ⟨h5, h6⟩ := andK_true h4
    obtain ⟨h7, h8⟩ := andK_true h6
    rw [beq_true h1, beq_true h3, beq_true h5, beq_true h7, eqON_true h8]
  | oth x => cases b <;> first | (cases h; done) | exact congrArg _ (eqOt_true h)
noncomputable def eqL {α : Type} (e : α → α → Bool) (a : List α) : List α → Bool :=
  List.rec (fun b => List.rec true (fun _ _ _ => false) b) (fun x _ ih b => List.rec false (fun y b _ => andK (e x y) (ih b)) b) a
theorem eqL_true [Sig] {α : Type} {e : α → α → Bool} (he : ∀ x y, e x y = true → x = y) : ∀ {a b : List α}, eqL e a b = true → a = b
  | [], [], _ => rfl
  | [], _ :: _, h => by cases h
  | _ :: _, [], h => by cases h
  | x :: a, y :: b, h => by
    obtain ⟨h1, h2⟩ := andK_true (show andK (e x y) (eqL e a b) = true from h)
    rw [he x y h1, eqL_true he h2]
noncomputable def eqWd (a b : Wd) : Bool := Wd.rec (fun x => Wd.rec (fun y => eqSc x y) (fun _ => false) b) (fun l => Wd.rec (fun _ => false) (fun m => eqL eqSc l m) b) a
theorem eqWd_true [Sig] {a b : Wd} (h : eqWd a b = true) : a = b := by
  cases a <;> cases b <;> first | (cases h; done) | exact congrArg _ (eqSc_true h) | exact congrArg _ (eqL_true (fun _ _ => eqSc_true) h)
noncomputable def eqVa (a b : Va) : Bool :=
  Va.rec (fun x => Va.rec (fun y => eqSc x y) (fun _ => false) (fun _ => false) b) (fun l => Va.rec (fun _ => false) (fun m => eqL eqSc l m) (fun _ => false) b) (fun l => Va.rec (fun _ => false) (fun _ => false) (fun m => eqL eqWd l m) b) a
theorem eqVa_true [Sig] {a b : Va} (h : eqVa a b = true) : a = b := by
  cases a <;> cases b <;> first | (cases h; done) | exact congrArg _ (eqSc_true h) | exact congrArg _ (eqL_true (fun _ _ => eqSc_true) h) | exact congrArg _ (eqL_true (fun _ _ => eqWd_true) h)
end Go.Proofs.YtmdciljpcnokcaaGreatDoor.Ex
/-
  A run of closed code by the kernel: a region that draws its order, run once in an order of its own; what that shows of each operation.
-/
namespace Go.Proofs.YtmdciljpcnokcaaGreatDoor.Ex
inductive In where
  | rd (i : Nat)
  | ck (i : Nat)
  | ch (i : Nat)
  | fr (i : Nat)
def dstIs (o : Oper) (s : Nat) : Bool := match o.dst with
  | some d => Nat.beq d s
  | none => false
theorem dstIs_spec [Sig] {o : Oper} {s : Nat} : dstIs o s = true ↔ o.dst = some s := by
  unfold dstIs
  cases o.dst with
  | none => simp
  | some d => simp only [Option.some.injEq]; exact ⟨beq_true, fun e => by rw [e]; exact Nat.beq_refl s⟩
def wrFrom (s : Nat) : List Oper → Nat → Option Nat
  | [], _ => none
  | o :: os, i => if dstIs o s = true then some i else wrFrom s os (i + 1)
theorem wrFrom_spec [Sig] {s j : Nat} : ∀ {os : List Oper} {i : Nat}, wrFrom s os i = some j → ∃ p o, j = i + p ∧ os[p]? = some o ∧ o.dst = some s
  | [], _, h => by cases h
  | o :: os, i, h => by
    unfold wrFrom at h
    split at h
    · cases h; exact ⟨0, o, rfl, rfl, dstIs_spec.1 (by assumption)⟩
    · obtain ⟨p, o', rfl, h1, h2⟩ := wrFrom_spec h
      exact ⟨p + 1, o', by omega, by simpa using h1, h2⟩
section
variable (P : Program) (n : Nat) (ops : Array Oper)
/-- who writes a slot -/
def wrOf (s : Nat) : Option Nat := wrFrom s ops.toList 0
theorem wrOf_spec [Sig] {ops : Array Oper} {s j : Nat} (h : wrOf ops s = some j) : ∃ o, ops[j]? = some o ∧ o.dst = some s := by
  obtain ⟨p, o, rfl, h1, h2⟩ := wrFrom_spec h
  exact ⟨o, by simpa using h1, h2⟩
def uniB : Bool := ops.toList.zipIdx.all fun x => match x.1.dst with
  | some d => eqONB (wrOf ops d) x.2
  | none => true
  where eqONB : Option Nat → Nat → Bool
    | some j, i => Nat.beq j i
    | none, _ => false
theorem uniB_spec [Sig] {ops : Array Oper} (h : uniB ops = true) {i d : Nat} {o : Oper} (ho : ops[i]? = some o) (hd : o.dst = some d) : wrOf ops d = some i := by
  have hm : (o, i) ∈ ops.toList.zipIdx := by
    rw [List.mem_iff_getElem?]
    exact ⟨i, by simp [List.getElem?_zipIdx, ho]⟩
  have := List.all_eq_true.1 h _ hm
  simp only [hd] at this
  cases hw : wrOf ops d with
  | none => rw [hw] at this; cases this
  | some j => rw [hw] at this; rw [beq_true this]
/-- what stands in a slot when the operations of M have run -/
def slotV (val : Nat → Va) (M : Nat → Bool) (tm0 : Nat → Va) (s : Nat) : Va := match wrOf ops s with
  | some j => if M j = true then val j else tm0 s
  | none => tm0 s
/-- what one operation finds -/
def sv (val tm0 : Nat → Va) (i : Nat) : Nat → Va := slotV ops val (fun j => befB ops j i) tm0
noncomputable def putT (n : Nat) (dst : Option Nat) (v : Va) (tm : Tn) (k : Tn → Bool) : Bool := Option.rec (k tm) (fun d => andK (Nat.blt d n) (tm.setK v d k)) dst
theorem putT_true [Sig] {dst : Option Nat} {v : Va} {tm : Tn} {k : Tn → Bool} (h : putT n dst v tm k = true) :
    ∃ tm', k tm' = true ∧ (∀ d, dst = some d → tm'.get d = v) ∧ ∀ m, dst ≠ some m → tm'.get m = tm.get m := by
  cases dst with
  | none => exact ⟨tm, h, (fun d e => by cases e), fun _ _ => rfl⟩
  | some d =>
    obtain ⟨h1, h2⟩ := andK_true (show andK (Nat.blt d n) (tm.setK v d k) = true from h)
    obtain ⟨t', h3, h4, h5⟩ := Tn.setK_true h2
    exact ⟨t', h3, fun d' e => by cases e; exact h4, fun m hm => h5 m fun e => hm (by rw [e])⟩
structure Sd where
  run : Dt → Tn → Hp → (Tn → Hp → Bool) → Bool
noncomputable def badS : Sd := ⟨fun _ _ _ _ => false⟩
noncomputable def stp : In → Sd
  | .ck i => match ops[i]? with
    | some o => match o.dst with
      | some d => ⟨fun D tm H k => tm.getK d fun v => valC P n ops o D tm H fun x H' => andK (eqVa x v) (k tm H')⟩
      | none => badS
    | none => badS
  | .rd i => match ops[i]? with
    | some o => ⟨fun D tm H k => valC P n ops o D tm H fun x H' => putT n o.dst x tm fun tm' => k tm' H'⟩
    | none => badS
  | .ch i => match ops[i]? with
    | some o => ⟨fun D tm H k => valC P n ops o D tm H fun x H' => putT n o.dst x tm fun tm' => k tm' H'⟩
    | none => badS
  | .fr i => match ops[i]? with
    | some o => ⟨fun D tm H k => valC P n ops o D tm H fun x H' => putT n o.dst x tm fun tm' => k tm' H'⟩
    | none => badS
noncomputable def runP (D : Dt) (l : List Sd) : Tn → Hp → (Tn → Hp → Bool) → Bool := List.rec (fun tm H k => k tm H) (fun s _ ih tm H k => s.run D tm H fun tm' H' => ih tm' H' k) l
def slotsB (i : Nat) (o : Oper) (M : Nat → Bool) : Bool := (o.looksAt ops).all fun s => match wrOf ops s with
  | some j => M j == befB ops j i
  | none => true
def isAt (g : Option (Nat × Bool)) (i : Nat) (f : Bool) : Bool := match g with
  | some (j, f') => Nat.beq j i && f' == f
  | none => false
theorem isAt_spec [Sig] {g : Option (Nat × Bool)} {i : Nat} {f : Bool} (h : isAt g i f = true) : g = some (i, f) := by
  unfold isAt at h
  split at h
  · obtain ⟨h1, h2⟩ := Bool.and_eq_true_iff.1 h
    rw [beq_true h1, beq_iff_eq.1 h2]
  · cases h
def chkI (gl : List (Nat × Bool)) (M : Nat → Bool) (c : Nat) : In → Bool
  | .rd i => match ops[i]? with
    | some o => stillB P o && (slotsB ops i o M && !M i)
    | none => false
  | .ck i => match ops[i]? with
    | some o => stillB P o && (slotsB ops i o M && M i)
    | none => false
  | .ch i => match ops[i]? with
    | some o => isAt gl[c]? i false && (slotsB ops i o M && !M i)
    | none => false
  | .fr i => match ops[i]? with
    | some o => isAt gl[c]? i true && (slotsB ops i o M && (!M i && (freeB P o && (o.guard.isNone && o.dst.isSome))))
    | none => false
def nextM (M : Nat → Bool) : In → Nat → Bool
  | .ck _ => M
  | .rd i => also M i
  | .ch i => also M i
  | .fr i => also M i
def nextC (c : Nat) : In → Nat
  | .ck _ => c
  | .rd _ => c
  | .ch _ => c + 1
  | .fr _ => c + 1
def chkP (gl : List (Nat × Bool)) : List In → (Nat → Bool) → Nat → Bool
  | [], M, c => Nat.beq c gl.length && (List.range ops.size).all M
  | I :: pl, M, c => chkI P ops gl M c I && chkP gl pl (nextM M I) (nextC c I)
def FactI [Sig] (val : Nat → Va) (K : Nat → Hp) (tm0 : Nat → Va) (c : Nat) : In → Prop
  | .ck i => ∀ o, ops[i]? = some o → Goes P n ops i o (sv ops val tm0 i) (K c) (val i) (K c)
  | .rd i => ∀ o, ops[i]? = some o → Goes P n ops i o (sv ops val tm0 i) (K c) (val i) (K c)
  | .ch i => ∀ o, ops[i]? = some o → Goes P n ops i o (sv ops val tm0 i) (K c) (val i) (K (c + 1))
  | .fr i => ∀ o, ops[i]? = some o → FreeGoes P n ops i o (sv ops val tm0 i) (K c) (val i) (K (c + 1)) ∧ ∃ d, o.dst = some d
def FactsP [Sig] (val : Nat → Va) (K : Nat → Hp) (tm0 : Nat → Va) : List In → Nat → Prop
  | [], _ => True
  | I :: pl, c => FactI P n ops val K tm0 c I ∧ FactsP val K tm0 pl (nextC c I)
end
section
variable {P : Program} {n : Nat} {ops : Array Oper}
theorem slotsB_spec {i : Nat} {o : Oper} {M : Nat → Bool} (h : slotsB ops i o M = true) {s j : Nat} (hs : s ∈ o.looksAt ops) (hw : wrOf ops s = some j) : M j = befB ops j i := by
  have := List.all_eq_true.1 h s hs
  rw [hw] at this
  exact beq_iff_eq.1 this
theorem slot_sv [Sig] {i : Nat} {o : Oper} {M : Nat → Bool} (h : slotsB ops i o M = true) {val val0 tm0 : Nat → Va} (hv : ∀ j, M j = true → val j = val0 j) : ∀ s ∈ o.looksAt ops, slotV ops val0 M tm0 s = sv ops val tm0 i s := by
  intro s hs
  unfold sv slotV
  cases hw : wrOf ops s with
  | none => rfl
  | some j =>
    have e := slotsB_spec h hs hw
    simp only [← e]
    cases hM : M j with
    | true => simp [hv j hM]
    | false => simp
theorem slot_put [Sig] (hu : uniB ops = true) {i : Nat} {o : Oper} (ho : ops[i]? = some o) {M : Nat → Bool} {val0 tm0 : Nat → Va} {x : Va} {tm tm' : Tn} (h0 : ∀ s, tm.get s = slotV ops val0 M tm0 s)
    (h1 : ∀ d, o.dst = some d → tm'.get d = x) (h2 : ∀ m, o.dst ≠ some m → tm'.get m = tm.get m) : ∀ s, tm'.get s = slotV ops (fun j => if j = i then x else val0 j) (also M i) tm0 s := by
  intro s
  by_cases e : o.dst = some s
  · rw [h1 s e]
    simp [slotV, uniB_spec hu ho e, also_same]
  · rw [h2 s e, h0 s]
    unfold slotV
    cases hw : wrOf ops s with
    | none => rfl
    | some j =>
      have hji : j ≠ i := by
        rintro rfl
        obtain ⟨o', h3, h4⟩ := wrOf_spec hw
        rw [ho] at h3
        cases h3
        exact e h4
      simp [also_other hji, hji]
theorem run_facts [Sig] {D : Dt} (hD : DS P D) (hu : uniB ops = true) {gl : List (Nat × Bool)} {tm0 : Nat → Va} {k : Tn → Hp → Bool} : ∀ (pl : List In) (M : Nat → Bool) (c : Nat) (val0 : Nat → Va) (K0 : Nat → Hp) (tm : Tn) (H : Hp),
    chkP P ops gl pl M c = true → runP D (pl.map (stp P n ops)) tm H k = true → K0 c = H → (∀ s, tm.get s = slotV ops val0 M tm0 s) →
    ∃ val K tm', k tm' (K gl.length) = true ∧ (∀ j, M j = true → val j = val0 j) ∧ (∀ r, r ≤ c → K r = K0 r) ∧ (∀ s, tm'.get s = slotV ops val (fun _ => true) tm0 s) ∧ FactsP P n ops val K tm0 pl c
  | [], M, c, val0, K0, tm, H, hc, h, hK, hs => by
    obtain ⟨h1, h2⟩ := Bool.and_eq_true_iff.1 hc
    refine ⟨val0, K0, tm, ?_, fun _ _ => rfl, fun _ _ => rfl, fun s => ?_, trivial⟩
    · rw [← beq_true h1, hK]; exact h
    · rw [hs s]
      unfold slotV
      cases hw : wrOf ops s with
      | none => rfl
      | some j =>
        obtain ⟨o, h3, _⟩ := wrOf_spec hw
        have : M j = true := List.all_eq_true.1 h2 j (List.mem_range.2 (Array.getElem?_eq_some_iff.1 h3).1)
        simp [this]
  | .rd i :: pl, M, c, val0, K0, tm, H, hc, h, hK, hs => by
    obtain ⟨hcI, hcP⟩ := Bool.and_eq_true_iff.1 hc
    have h : (stp P n ops (.rd i)).run D tm H (fun tm' H' => runP D (pl.map (stp P n ops)) tm' H' k) = true := h
    simp only [chkI] at hcI
    simp only [stp] at h
    cases ho : ops[i]? with
    | none => rw [ho] at hcI; cases hcI
    | some o =>
      rw [ho] at hcI h
      simp only [Bool.and_eq_true, Bool.not_eq_true'] at hcI
      obtain ⟨h1, h2, h3⟩ := hcI
      have h : valC P n ops o D tm H (fun x H' => putT n o.dst x tm fun tm' => runP D (pl.map (stp P n ops)) tm' H' k) = true := h
      obtain ⟨x, h4, hg⟩ := valC_still (P := P) (n := n) ho (stillB_sound h1) hD h
      obtain ⟨tm', h5, h6, h7⟩ := putT_true n h4
      obtain ⟨val, K, tm'', r1, r2, r3, r4, r5⟩ := run_facts hD hu pl (also M i) c (fun j => if j = i then x else val0 j) K0 tm' H hcP h5 hK (slot_put hu ho hs h6 h7)
      have hval : ∀ j, M j = true → val j = val0 j := fun j hj => by
        have := r2 j (also_of hj)
        rwa [if_neg (fun e => by rw [e, h3] at hj; cases hj)] at this
      have hvi : val i = x := by have := r2 i (also_same M i); rwa [if_pos rfl] at this
      refine ⟨val, K, tm'', r1, hval, r3, r4, fun o' ho' => ?_, r5⟩
      rw [ho] at ho'
      cases ho'
      rw [hvi, r3 c (Nat.le_refl _), hK]
      exact hg.congr fun s hs' => (hs s).trans (slot_sv h2 hval s hs')
  | .ck i :: pl, M, c, val0, K0, tm, H, hc, h, hK, hs => by
    obtain ⟨hcI, hcP⟩ := Bool.and_eq_true_iff.1 hc
    have h : (stp P n ops (.ck i)).run D tm H (fun tm' H' => runP D (pl.map (stp P n ops)) tm' H' k) = true := h
    simp only [chkI] at hcI
    simp only [stp] at h
    cases ho : ops[i]? with
    | none => rw [ho] at hcI; cases hcI
    | some o =>
      rw [ho] at hcI h
      simp only [Bool.and_eq_true] at hcI
      obtain ⟨h1, h2, h3⟩ := hcI
      cases hd : o.dst with
      | none => simp only [hd] at h; cases h
      | some d =>
        simp only [hd] at h
        have h := Tn.getK_true h
        obtain ⟨x, h4, hg⟩ := valC_still (P := P) (n := n) ho (stillB_sound h1) hD h
        obtain ⟨h5, h6⟩ := andK_true h4
        obtain ⟨val, K, tm'', r1, r2, r3, r4, r5⟩ := run_facts hD hu pl M c val0 K0 tm H hcP h6 hK hs
        have hvi : val i = x := by
          rw [eqVa_true h5, hs d, r2 i h3]
          simp [slotV, uniB_spec hu ho hd, h3]
        refine ⟨val, K, tm'', r1, r2, r3, r4, fun o' ho' => ?_, r5⟩
        rw [ho] at ho'
        cases ho'
        rw [hvi, r3 c (Nat.le_refl _), hK]
        exact hg.congr fun s hs' => (hs s).trans (slot_sv h2 r2 s hs')
  | .ch i :: pl, M, c, val0, K0, tm, H, hc, h, hK, hs => by
    obtain ⟨hcI, hcP⟩ := Bool.and_eq_true_iff.1 hc
    have h : (stp P n ops (.ch i)).run D tm H (fun tm' H' => runP D (pl.map (stp P n ops)) tm' H' k) = true := h
    simp only [chkI] at hcI
    simp only [stp] at h
    cases ho : ops[i]? with
    | none => rw [ho] at hcI; cases hcI
    | some o =>
      rw [ho] at hcI h
      simp only [Bool.and_eq_true, Bool.not_eq_true'] at hcI
      obtain ⟨h1, h2, h3⟩ := hcI
      have h : valC P n ops o D tm H (fun x H' => putT n o.dst x tm fun tm' => runP D (pl.map (stp P n ops)) tm' H' k) = true := h
      obtain ⟨x, H', h4, hg⟩ := valC_goes (P := P) (n := n) ho hD h
      obtain ⟨tm', h5, h6, h7⟩ := putT_true n h4
      obtain ⟨val, K, tm'', r1, r2, r3, r4, r5⟩ := run_facts hD hu pl (also M i) (c + 1) (fun j => if j = i then x else val0 j) (fun r => if r ≤ c then K0 r else H') tm' H' hcP h5 (if_neg (Nat.not_succ_le_self c)) (slot_put hu ho hs h6 h7)
      have hval : ∀ j, M j = true → val j = val0 j := fun j hj => by
        have := r2 j (also_of hj)
        rwa [if_neg (fun e => by rw [e, h3] at hj; cases hj)] at this
      have hvi : val i = x := by have := r2 i (also_same M i); rwa [if_pos rfl] at this
      have hKK : ∀ r, r ≤ c → K r = K0 r := fun r hr => by rw [r3 r (by omega), if_pos hr]
      refine ⟨val, K, tm'', r1, hval, hKK, r4, fun o' ho' => ?_, r5⟩
      rw [ho] at ho'
      cases ho'
      rw [hvi, hKK c (Nat.le_refl _), hK, r3 (c + 1) (Nat.le_refl _), if_neg (by omega)]
      exact hg.congr fun s hs' => (hs s).trans (slot_sv h2 hval s hs')
  | .fr i :: pl, M, c, val0, K0, tm, H, hc, h, hK, hs => by
    obtain ⟨hcI, hcP⟩ := Bool.and_eq_true_iff.1 hc
    have h : (stp P n ops (.fr i)).run D tm H (fun tm' H' => runP D (pl.map (stp P n ops)) tm' H' k) = true := h
    simp only [chkI] at hcI
    simp only [stp] at h
    cases ho : ops[i]? with
    | none => rw [ho] at hcI; cases hcI
    | some o =>
      rw [ho] at hcI h
      simp only [Bool.and_eq_true, Bool.not_eq_true', Option.isNone_iff_eq_none] at hcI
      obtain ⟨h1, h2, h3, hf, hgd, hds⟩ := hcI
      have h : valC P n ops o D tm H (fun x H' => putT n o.dst x tm fun tm' => runP D (pl.map (stp P n ops)) tm' H' k) = true := h
      obtain ⟨x, H', h4, hg⟩ := valC_free (P := P) (n := n) ho hgd (freeB_sound (P := P) hf).2 (freeB_sound hf).1 h
      obtain ⟨tm', h5, h6, h7⟩ := putT_true n h4
      obtain ⟨val, K, tm'', r1, r2, r3, r4, r5⟩ := run_facts hD hu pl (also M i) (c + 1) (fun j => if j = i then x else val0 j) (fun r => if r ≤ c then K0 r else H') tm' H' hcP h5 (if_neg (Nat.not_succ_le_self c)) (slot_put hu ho hs h6 h7)
      have hval : ∀ j, M j = true → val j = val0 j := fun j hj => by
        have := r2 j (also_of hj)
        rwa [if_neg (fun e => by rw [e, h3] at hj; cases hj)] at this
      have hvi : val i = x := by have := r2 i (also_same M i); rwa [if_pos rfl] at this
      have hKK : ∀ r, r ≤ c → K r = K0 r := fun r hr => by rw [r3 r (by omega), if_pos hr]
      refine ⟨val, K, tm'', r1, hval, hKK, r4, fun o' ho' => ?_, r5⟩
      rw [ho] at ho'
      cases ho'
      rw [hvi, hKK c (Nat.le_refl _), hK, r3 (c + 1) (Nat.le_refl _), if_neg (by omega)]
      exact ⟨hg.congr fun s hs' => (hs s).trans (slot_sv h2 hval s hs'), Option.isSome_iff_exists.1 hds⟩
/-- the heaps at which an operation has been looked at -/
def factsL : List In → Nat → List (Nat × Nat)
  | [], _ => []
  | .ck i :: pl, c => (i, c) :: factsL pl c
  | .rd i :: pl, c => (i, c) :: factsL pl c
  | .ch _ :: pl, c => factsL pl (c + 1)
  | .fr _ :: pl, c => factsL pl (c + 1)
theorem facts_read [Sig] {val : Nat → Va} {K : Nat → Hp} {tm0 : Nat → Va} {i r : Nat} {o : Oper} (ho : ops[i]? = some o) : ∀ {pl : List In} {c : Nat}, FactsP P n ops val K tm0 pl c → (i, r) ∈ factsL pl c → Goes P n ops i o (sv ops val tm0 i) (K r) (val i) (K r)
  | [], _, _, h => by simp [factsL] at h
  | .ck j :: pl, c, hf, h => by
    rcases List.mem_cons.1 h with e | h
    · cases e; exact hf.1 o ho
    · exact facts_read ho hf.2 h
  | .rd j :: pl, c, hf, h => by
    rcases List.mem_cons.1 h with e | h
    · cases e; exact hf.1 o ho
    · exact facts_read ho hf.2 h
  | .ch j :: pl, c, hf, h => facts_read ho hf.2 h
  | .fr j :: pl, c, hf, h => facts_read ho hf.2 h
theorem facts_chain [Sig] {gl : List (Nat × Bool)} {val : Nat → Va} {K : Nat → Hp} {tm0 : Nat → Va} {i m : Nat} {o : Oper} {f : Bool} (ho : ops[i]? = some o) (hm : gl[m]? = some (i, f)) : ∀ {pl : List In} {M : Nat → Bool} {c : Nat}, chkP P ops gl pl M c = true → FactsP P n ops val K tm0 pl c → c ≤ m →
    (f = false → Goes P n ops i o (sv ops val tm0 i) (K m) (val i) (K (m + 1))) ∧ (f = true → FreeGoes P n ops i o (sv ops val tm0 i) (K m) (val i) (K (m + 1)) ∧ ∃ d, o.dst = some d)
  | [], M, c, hc, _, hcm => by
    obtain ⟨h1, _⟩ := Bool.and_eq_true_iff.1 hc
    have := beq_true h1
    have := (List.getElem?_eq_some_iff.1 hm).1
    omega
  | .ck j :: pl, M, c, hc, hf, hcm => facts_chain ho hm (Bool.and_eq_true_iff.1 hc).2 hf.2 hcm
  | .rd j :: pl, M, c, hc, hf, hcm => facts_chain ho hm (Bool.and_eq_true_iff.1 hc).2 hf.2 hcm
  | .ch j :: pl, M, c, hc, hf, hcm => by
    obtain ⟨hcI, hcP⟩ := Bool.and_eq_true_iff.1 hc
    by_cases e : c = m
    · subst e
      simp only [chkI] at hcI
      cases hj : ops[j]? with
      | none => rw [hj] at hcI; cases hcI
      | some oj =>
        rw [hj] at hcI
        have := isAt_spec (Bool.and_eq_true_iff.1 hcI).1
        rw [hm] at this
        cases this
        exact ⟨fun _ => hf.1 o ho, fun e => by cases e⟩
    · exact facts_chain ho hm hcP hf.2 (show c + 1 ≤ m by omega)
  | .fr j :: pl, M, c, hc, hf, hcm => by
    obtain ⟨hcI, hcP⟩ := Bool.and_eq_true_iff.1 hc
    by_cases e : c = m
    · subst e
      simp only [chkI] at hcI
      cases hj : ops[j]? with
      | none => rw [hj] at hcI; cases hcI
      | some oj =>
        rw [hj] at hcI
        have := isAt_spec (Bool.and_eq_true_iff.1 hcI).1
        rw [hm] at this
        cases this
        exact ⟨(fun e => by cases e), fun _ => hf.1 o ho⟩
    · exact facts_chain ho hm hcP hf.2 (show c + 1 ≤ m by omega)
end
end Go.Proofs.YtmdciljpcnokcaaGreatDoor.Ex
/-
  A run of closed code by the kernel: a region that draws its order, in every order that is let.
-/
namespace Go.Proofs.YtmdciljpcnokcaaGreatDoor.Ex
section
variable {P : Program}
/-- a block that is there already gets its name -/
theorem HR0.name [Sig] {ι : Inj} {H H' : Hp} {w : World} {ob : Ob} {z : Loc} (h : HR0 ι H w) (hn : Named H ob H') (ho : ob.R (ι.more H.nx z) w H.nx) (hz : z.block < w.heap.size) (ha : ∀ b o x, H.t.get b = some o → ι.loc b = some x → x.block ≠ z.block) :
    HR0 (ι.more H.nx z) H' w := by
  obtain ⟨h1, h2, h3⟩ := hn
  have hle : ι.le (ι.more H.nx z) := Inj.le_more (h.fresh _ (Nat.le_refl _)).1
  refine ⟨?_, ?_, ?_, ?_⟩
  · intro b' o' h'
    by_cases e : b' = H.nx
    · subst e
      rw [h2] at h'
      cases h'
      exact ho
    · exact Ob.R.mono hle (fun y hy => rfl) (h.obj b' o' ((h3 b' e).symm.trans h'))
  · intro b' h'
    rw [h1] at h'
    obtain ⟨h4, h5, h6⟩ := h.fresh b' (by omega)
    have e : b' ≠ H.nx := by omega
    exact ⟨by rw [Inj.more_other e]; exact h4, h5, (h3 b' e).trans h6⟩
  · intro b1 b2 o1 o2 x1 x2 e1 e2 l1 l2 hh
    by_cases d1 : b1 = H.nx
    · by_cases d2 : b2 = H.nx
      · rw [d1, d2]
      · subst d1
        rw [Inj.more_same] at l1
        cases l1
        rw [Inj.more_other d2] at l2
        exact absurd hh.symm (ha b2 o2 x2 ((h3 b2 d2).symm.trans e2) l2)
    · by_cases d2 : b2 = H.nx
      · subst d2
        rw [Inj.more_same] at l2
        cases l2
        rw [Inj.more_other d1] at l1
        exact absurd hh (ha b1 o1 x1 ((h3 b1 d1).symm.trans e1) l1)
      · rw [Inj.more_other d1] at l1
        rw [Inj.more_other d2] at l2
        exact h.inj b1 b2 o1 o2 x1 x2 ((h3 b1 d1).symm.trans e1) ((h3 b2 d2).symm.trans e2) l1 l2 hh
  · intro b' y hy
    by_cases e : b' = H.nx
    · subst e
      rw [Inj.more_same] at hy
      cases hy
      exact hz
    · rw [Inj.more_other e] at hy
      exact h.lt b' y hy
theorem HR0.grow [Sig] {ι : Inj} {H : Hp} {w : World} (h : HR0 ι H w) (obj : Obj) : HR0 ι H (w.alloc obj) :=
  ⟨fun b o hb => (h.obj b o hb).mono (Inj.le.refl ι) fun x hx => alloc_old w obj (h.lt b x hx), h.fresh, h.inj, fun b x hx => by rw [World.size_alloc]; exact Nat.lt_succ_of_lt (h.lt b x hx)⟩
theorem HR.name [Sig] {ι : Inj} {H H' : Hp} {w : World} {ob : Ob} {z : Loc} (h : HR ι H w) (hn : Named H ob H') (ho : ob.R (ι.more H.nx z) w H.nx) (hz : z.block < w.heap.size) (hg : GB ≤ z.block) (ha : ∀ b o x, H.t.get b = some o → ι.loc b = some x → x.block ≠ z.block) :
    HR (ι.more H.nx z) H' w := by
  refine ⟨HR0.name h.toHR0 hn ho hz ha, h.amb, fun b y hy => ?_⟩
  by_cases eb : b = H.nx
  · subst eb
    rw [Inj.more_same] at hy
    cases hy
    exact hg
  · rw [Inj.more_other eb] at hy
    exact h.far b y hy
theorem HR.grow [Sig] {ι : Inj} {H : Hp} {w : World} (h : HR ι H w) (obj : Obj) : HR ι H (w.alloc obj) :=
  ⟨h.toHR0.grow obj, h.amb.stay (by rw [World.size_alloc]; omega) fun k hk => alloc_old w obj (by have := h.amb.gb; omega), h.far⟩
theorem Ext.grow [Sig] {ι : Inj} {H : Hp} {w : World} (obj : Obj) : Ext ι H w ι H (w.alloc obj) :=
  ⟨fun _ _ h => h, fun _ _ h => h, Nat.le_refl _, by rw [World.size_alloc]; omega, fun k hk _ => alloc_old w obj hk, fun b o x h1 h2 => .inr ⟨b, o, x, h1, h2, rfl⟩, fun _ _ _ h _ hlt => ⟨alloc_old w obj hlt, .inl h⟩, rfl, rfl, rfl⟩

/-! ### What has to be seen of the plan -/
def befAll (ops : Array Oper) (gl : List (Nat × Bool)) (m i : Nat) : Bool := (gl.take m).all fun g => befB ops g.1 i
def chainB (ops : Array Oper) (gl : List (Nat × Bool)) : Bool := gl.zipIdx.all fun x => Nat.blt x.1.1 ops.size && ((x.1.2 || befAll ops gl x.2 x.1.1) && (gl.take x.2).all fun g => !Nat.beq g.1 x.1.1)
def freeAt (gl : List (Nat × Bool)) (j i : Nat) (ops : Array Oper) : Bool := gl.zipIdx.all fun x => !Nat.beq x.1.1 j || (!x.1.2 || befAll ops gl (x.2 + 1) i)
def slotOk (n : Nat) (ops : Array Oper) (gl : List (Nat × Bool)) (i : Nat) (s : Nat) : Bool := Nat.blt s n && match wrOf ops s with
  | some j => Nat.beq j i || (befB ops j i && freeAt gl j i ops || befB ops i j)
  | none => true
def slotsOk (n : Nat) (ops : Array Oper) (gl : List (Nat × Bool)) : Bool := ops.toList.zipIdx.all fun x => (x.1.looksAt ops).all fun s => slotOk n ops gl x.2 s
def readB (ops : Array Oper) (gl : List (Nat × Bool)) (fl : List (Nat × Nat)) : Bool := (List.range ops.size).all fun i => gl.any (fun g => Nat.beq g.1 i) || (List.range (gl.length + 1)).all fun r =>
  (match gl[r]? with
    | some g => befB ops g.1 i
    | none => false) || ((gl.take r).any (fun g => befB ops i g.1) || fl.any fun x => Nat.beq x.1 i && Nat.beq x.2 r)
def planB (P : Program) (n : Nat) (ops : Array Oper) (gl : List (Nat × Bool)) (pl : List In) : Bool :=
  downB ops && (uniB ops && (chainB ops gl && (slotsOk n ops gl && (readB ops gl (factsL pl 0) && chkP P ops gl pl (fun _ => false) 0))))

theorem Bef.lt [Sig] {ops : Array Oper} (hd : downB ops = true) {i j : Nat} (h : Bef ops j i) : j < i := by
  induction h with
  | edge ho hj => exact downB_spec hd ho hj
  | step ho hk _ ih => exact Nat.lt_trans ih (downB_spec hd ho hk)
theorem befAll_spec [Sig] {ops : Array Oper} {gl : List (Nat × Bool)} {m i : Nat} (h : befAll ops gl m i = true) {k j : Nat} {f : Bool} (hk : k < m) (hg : gl[k]? = some (j, f)) : Bef ops j i :=
  befB_spec (List.all_eq_true.1 h (j, f) (List.mem_iff_getElem?.2 ⟨k, by rw [List.getElem?_take, if_pos hk, hg]⟩))
theorem mem_zipIdx {α : Type} {l : List α} {k : Nat} {x : α} (h : l[k]? = some x) : (x, k) ∈ l.zipIdx := by
  rw [List.mem_iff_getElem?]
  exact ⟨k, by simp [List.getElem?_zipIdx, h]⟩
theorem chainB_spec [Sig] {ops : Array Oper} {gl : List (Nat × Bool)} (h : chainB ops gl = true) {k i : Nat} {f : Bool} (hk : gl[k]? = some (i, f)) :
    i < ops.size ∧ (f = false → ∀ k' j f', k' < k → gl[k']? = some (j, f') → Bef ops j i) ∧ ∀ k' f', gl[k']? = some (i, f') → k' = k := by
  have key : ∀ {k i f}, gl[k]? = some (i, f) → i < ops.size ∧ (f = true ∨ befAll ops gl k i = true) ∧ ∀ k' j f', k' < k → gl[k']? = some (j, f') → j ≠ i := by
    intro k i f hk
    have := List.all_eq_true.1 h _ (mem_zipIdx hk)
    simp only [Bool.and_eq_true, Bool.or_eq_true] at this
    obtain ⟨h1, h2, h3⟩ := this
    refine ⟨blt_true h1, h2, fun k' j f' hk' hj e => ?_⟩
    have := List.all_eq_true.1 h3 (j, f') (List.mem_iff_getElem?.2 ⟨k', by rw [List.getElem?_take, if_pos hk', hj]⟩)
    simp [e] at this
  obtain ⟨h1, h2, h3⟩ := key hk
  refine ⟨h1, fun hf k' j f' hk' hj => ?_, fun k' f' hk' => ?_⟩
  · rcases h2 with h2 | h2
    · rw [hf] at h2; cases h2
    · exact befAll_spec h2 hk' hj
  · rcases Nat.lt_trichotomy k' k with hlt | he | hlt
    · exact absurd rfl (h3 k' i f' hlt hk')
    · exact he
    · exact absurd rfl ((key hk').2.2 k i f hlt hk)
end

section
variable (P : Program) (n : Nat) (ops : Array Oper) (gl : List (Nat × Bool)) (val : Nat → Va) (K : Nat → Hp) (tm0 : Nat → Va)
/-- what a plan and its run show -/
structure Dat [Sig] : Prop where
  down : downB ops = true
  uni : uniB ops = true
  chain : chainB ops gl = true
  slots : slotsOk n ops gl = true
  real : ∀ k i o, gl[k]? = some (i, false) → ops[i]? = some o → Goes P n ops i o (sv ops val tm0 i) (K k) (val i) (K (k + 1))
  free : ∀ k i o, gl[k]? = some (i, true) → ops[i]? = some o → FreeGoes P n ops i o (sv ops val tm0 i) (K k) (val i) (K (k + 1)) ∧ ∃ d, o.dst = some d
  read : ∀ i o r, ops[i]? = some o → (∀ (k : Nat) (f : Bool), gl[k]? ≠ some (i, f)) → r ≤ gl.length → (∀ j f, gl[r]? = some (j, f) → befB ops j i = false) → (∀ k j f, k < r → gl[k]? = some (j, f) → befB ops i j = false) →
    Goes P n ops i o (sv ops val tm0 i) (K r) (val i) (K r)
/-- what holds when the operations of L have run: the first r of the chain have, and of those behind some blocks are there without a name -/
structure Jv [Sig] (ι0 : Inj) (w0 : World) (ds : List Deferred) (L : Nat → Bool) (r : Nat) (ι : Inj) (Z : Nat → Loc) (V : Nat → Value) (O : Nat → Obj) (a : Act) (w : World) : Prop where
  sz : a.tmps.size = n
  df : a.defers = ds
  ext : Ext ι0 (K 0) w0 ι (K r) w
  hr : HR ι (K r) w
  dc : Dc ops L
  gb : GB ≤ w0.heap.size
  rle : r ≤ gl.length
  pre : ∀ k i f, k < r → gl[k]? = some (i, f) → L i = true
  slot : ∀ s, s < n → (∀ k j f, wrOf ops s = some j → L j = true → gl[k]? = some (j, f) → k < r) → (slotV ops val L tm0 s).R ι (a.tmps.getD s undef)
  pend : ∀ k i f, r ≤ k → gl[k]? = some (i, f) → L i = true → f = true ∧ ∃ o d ob, ops[i]? = some o ∧ o.dst = some d ∧ (d < n → a.tmps.getD d undef = V k) ∧ Made (K k).nx ob (val i) (V k) (Z k) (O k) ∧ Named (K k) ob (K (k + 1)) ∧
    w.heap[(Z k).block]? = some (O k) ∧ w0.heap.size ≤ (Z k).block ∧ ∀ b o x, (K r).t.get b = some o → ι.loc b = some x → x.block ≠ (Z k).block
  dist : ∀ k k' i i' f f', r ≤ k → r ≤ k' → gl[k]? = some (i, f) → gl[k']? = some (i', f') → L i = true → L i' = true → (Z k).block = (Z k').block → k = k'
end
section
variable {P : Program} {n : Nat} {ops : Array Oper} {gl : List (Nat × Bool)} {val : Nat → Va} {K : Nat → Hp} {tm0 : Nat → Va} {ι0 : Inj} {w0 : World} {ds : List Deferred}
theorem lt_size {w : World} {b : Nat} {o : Obj} (h : w.heap[b]? = some o) : b < w.heap.size := (Array.getElem?_eq_some_iff.1 h).1
/-- the names that are due are given -/
theorem Jv.advance [Sig] {L : Nat → Bool} {Z : Nat → Loc} {V : Nat → Value} {O : Nat → Obj} {a : Act} {w : World} : ∀ (m r : Nat) (ι : Inj), gl.length - r ≤ m → Jv n ops gl val K tm0 ι0 w0 ds L r ι Z V O a w →
    ∃ r' ι', Jv n ops gl val K tm0 ι0 w0 ds L r' ι' Z V O a w ∧ ∀ i f, gl[r']? = some (i, f) → L i = false := by
  intro m
  induction m with
  | zero =>
    intro r ι hm hJ
    refine ⟨r, ι, hJ, fun i f h => ?_⟩
    have := (List.getElem?_eq_some_iff.1 h).1
    omega
  | succ m ih =>
    intro r ι hm hJ
    cases hg : gl[r]? with
    | none => exact ⟨r, ι, hJ, fun i f h => by rw [hg] at h; cases h⟩
    | some g =>
      obtain ⟨i, f⟩ := g
      cases hL : L i with
      | false => exact ⟨r, ι, hJ, fun i' f' h => by rw [hg] at h; cases h; exact hL⟩
      | true =>
        have hrl := (List.getElem?_eq_some_iff.1 hg).1
        obtain ⟨rfl, o, d, ob, ho, hd, hV, hM, hN, hw, hz, ha⟩ := hJ.pend r i f (Nat.le_refl _) hg hL
        have hid : (ι.more (K r).nx (Z r)).loc (K r).nx = some (Z r) := Inj.more_same
        obtain ⟨hob, hx⟩ := hM (ι.more (K r).nx (Z r)) w hid hw
        have hle : ι.le (ι.more (K r).nx (Z r)) := Inj.le_more (hJ.hr.fresh _ (Nat.le_refl _)).1
        refine ih (r + 1) (ι.more (K r).nx (Z r)) (by omega) ⟨hJ.sz, hJ.df, ⟨fun b x h => hle.loc _ _ (hJ.ext.loc b x h), fun b x h => hle.clo _ _ (hJ.ext.clo b x h), ?_, hJ.ext.size, hJ.ext.keep, ?_, ?_, hJ.ext.same⟩, hJ.hr.name hN hob (lt_size hw) (Nat.le_trans hJ.gb hz) ha, hJ.dc, hJ.gb, hrl, ?_, ?_, ?_, ?_⟩
        · rw [hN.1]; exact Nat.le_succ_of_le hJ.ext.nx
        · intro b o' x hb hx
          by_cases e : b = (K r).nx
          · subst e
            rw [Inj.more_same] at hx
            cases hx
            exact .inl hz
          · rw [Inj.more_other e] at hx
            exact hJ.ext.live b o' x ((hN.2.2 b e).symm.trans hb) hx
        · intro b l x hb hx hlt
          obtain ⟨e1, h1⟩ := hJ.ext.ro b l x hb hx hlt
          refine ⟨e1, ?_⟩
          rcases h1 with h1 | h1
          · have e : b ≠ (K r).nx := fun e => by rw [e, (hJ.hr.fresh _ (Nat.le_refl _)).2.2] at h1; cases h1
            exact .inl ((hN.2.2 b e).trans h1)
          · refine .inr fun b' o' x' hb' hx' => ?_
            by_cases e : b' = (K r).nx
            · subst e
              rw [Inj.more_same] at hx'
              cases hx'
              omega
            · rw [Inj.more_other e] at hx'
              exact h1 b' o' x' ((hN.2.2 b' e).symm.trans hb') hx'
        · intro k j f hk hj
          rcases Nat.lt_or_ge k r with h | h
          · exact hJ.pre k j f h hj
          · obtain rfl : k = r := by omega
            rw [hg] at hj
            cases hj
            exact hL
        · intro s hs hp
          by_cases e : wrOf ops s = some i
          · obtain ⟨o', h1, h2⟩ := wrOf_spec e
            rw [ho] at h1
            cases h1
            rw [hd] at h2
            cases h2
            rw [hV hs]
            have : slotV ops val L tm0 d = val i := by simp [slotV, e, hL]
            rw [this]
            exact hx
          · refine (hJ.slot s hs fun k j f h1 h2 h3 => ?_).mono hle
            have := hp k j f h1 h2 h3
            rcases Nat.lt_or_ge k r with h | h
            · exact h
            · obtain rfl : k = r := by omega
              rw [hg] at h3
              cases h3
              exact absurd h1 e
        · intro k j f hk hj hLj
          obtain ⟨g1, o', d', ob', g2, g3, g4, g5, g6, g7, g8, g9⟩ := hJ.pend k j f (by omega) hj hLj
          refine ⟨g1, o', d', ob', g2, g3, g4, g5, g6, g7, g8, fun b o x hb hx => ?_⟩
          by_cases e : b = (K r).nx
          · subst e
            rw [Inj.more_same] at hx
            cases hx
            intro h
            have := hJ.dist r k i j true f (Nat.le_refl _) (by omega) hg hj hL hLj h
            omega
          · rw [Inj.more_other e] at hx
            exact g9 b o x ((hN.2.2 b e).symm.trans hb) hx
        · exact fun k k' i i' f f' h1 h2 => hJ.dist k k' i i' f f' (by omega) (by omega)
theorem put_same {a : Act} {d : Nat} {v : Value} (hd : d < a.tmps.size) : (a.put (some d) v).tmps.getD d undef = v := by simp [Act.put, hd]
theorem put_other {a : Act} {dst : Option Nat} {s : Nat} {v : Value} (h : dst ≠ some s) : (a.put dst v).tmps.getD s undef = a.tmps.getD s undef := by
  cases dst with
  | none => rfl
  | some d =>
    have : d ≠ s := fun e => h (by rw [e])
    simp [Act.put, this]
theorem put_size {a : Act} {dst : Option Nat} {v : Value} : (a.put dst v).tmps.size = a.tmps.size := by cases dst <;> simp [Act.put]
theorem put_defers {a : Act} {dst : Option Nat} {v : Value} : (a.put dst v).defers = a.defers := by cases dst <;> rfl
/-- an operation that is not about a block without a name -/
theorem Jv.step [Sig] (hD : Dat P n ops gl val K tm0) {L : Nat → Bool} {r r' : Nat} {ι ι' : Inj} {Z : Nat → Loc} {V : Nat → Value} {O : Nat → Obj} {a : Act} {w w' : World} (hJ : Jv n ops gl val K tm0 ι0 w0 ds L r ι Z V O a w)
    {i : Nat} {o : Oper} (ho : ops[i]? = some o) (hr : Ready ops L i) (hc : (r' = r ∧ ∀ (k : Nat) (f : Bool), gl[k]? ≠ some (i, f)) ∨ (r' = r + 1 ∧ gl[r]? = some (i, false))) {v : Value} (hE : Ext ι (K r) w ι' (K r') w') (hH : HR ι' (K r') w') (hv : (val i).R ι' v) :
    Jv n ops gl val K tm0 ι0 w0 ds (also L i) r' ι' Z V O (a.put o.dst v) w' := by
  have hrr : r ≤ r' ∧ r' ≤ gl.length := by
    rcases hc with ⟨e, _⟩ | ⟨e, hg⟩
    · exact ⟨by omega, e ▸ hJ.rle⟩
    · have := (List.getElem?_eq_some_iff.1 hg).1; exact ⟨by omega, by omega⟩
  have hnot : ∀ k f, r' ≤ k → gl[k]? ≠ some (i, f) := by
    intro k f hk hg
    rcases hc with ⟨_, h⟩ | ⟨e, h⟩
    · exact h k f hg
    · have := (chainB_spec hD.chain h).2.2 k f hg; omega
  have hold : ∀ {k j f}, r' ≤ k → gl[k]? = some (j, f) → also L i j = true → L j = true := by
    intro k j f hk hg hL
    by_cases e : j = i
    · subst e; exact absurd hg (hnot k f hk)
    · rwa [also_other e] at hL
  refine ⟨put_size.trans hJ.sz, put_defers.trans hJ.df, hJ.ext.trans hE, hH, hJ.dc.also hr, hJ.gb, hrr.2, ?_, ?_, ?_, ?_⟩
  · intro k j f hk hg
    rcases Nat.lt_or_ge k r with h | h
    · exact also_of (hJ.pre k j f h hg)
    · rcases hc with ⟨e, _⟩ | ⟨e, h'⟩
      · omega
      · obtain rfl : k = r := by omega
        rw [h'] at hg
        cases hg
        exact also_same L _
  · intro s hs hp
    by_cases e : o.dst = some s
    · have hw := uniB_spec hD.uni ho e
      have : slotV ops val (also L i) tm0 s = val i := by simp [slotV, hw, also_same]
      rw [this, e, put_same (by rw [hJ.sz]; exact hs)]
      exact hv
    · have hne : ∀ j, wrOf ops s = some j → j ≠ i := by
        rintro j hw rfl
        obtain ⟨o', h1, h2⟩ := wrOf_spec hw
        rw [ho] at h1
        cases h1
        exact e h2
      have : slotV ops val (also L i) tm0 s = slotV ops val L tm0 s := by
        unfold slotV
        cases hw : wrOf ops s with
        | none => rfl
        | some j => simp only [also_other (hne j hw)]
      rw [this, put_other e]
      refine (hJ.slot s hs fun k j f h1 h2 h3 => ?_).mono hE.le
      have hk := hp k j f h1 (also_of h2) h3
      rcases Nat.lt_or_ge k r with h | h
      · exact h
      · rcases hc with ⟨e, _⟩ | ⟨e, h'⟩
        · omega
        · obtain rfl : k = r := by omega
          rw [h'] at h3
          cases h3
          exact absurd rfl (hne _ h1)
  · intro k j f hk hg hL
    have hLj := hold hk hg hL
    obtain ⟨g1, o', d', ob', g2, g3, g4, g5, g6, g7, g8, g9⟩ := hJ.pend k j f (by omega) hg hLj
    refine ⟨g1, o', d', ob', g2, g3, fun hd => ?_, g5, g6, ?_, g8, fun b o x hb hx => ?_⟩
    · rw [put_other fun e => ?_]
      · exact g4 hd
      · have h1 := uniB_spec hD.uni ho e
        have h2 := uniB_spec hD.uni g2 g3
        rw [h1] at h2
        cases h2
        exact hnot k f hk hg
    · rw [hE.keep _ (lt_size g7) g9]
      exact g7
    · rcases hE.live b o x hb hx with h | ⟨b0, o0, x0, h1, h2, h3⟩
      · have := lt_size g7; omega
      · rw [← h3]; exact g9 b0 o0 x0 h1 h2
  · exact fun k k' j j' f f' h1 h2 h3 h4 h5 h6 => hJ.dist k k' j j' f f' (by omega) (by omega) h3 h4 (hold h1 h3 h5) (hold h2 h4 h6)
/-- a block that is made, and has no name yet -/
theorem Jv.make [Sig] (hD : Dat P n ops gl val K tm0) {L : Nat → Bool} {r : Nat} {ι : Inj} {Z : Nat → Loc} {V : Nat → Value} {O : Nat → Obj} {a : Act} {w : World} (hJ : Jv n ops gl val K tm0 ι0 w0 ds L r ι Z V O a w)
    {i k0 d : Nat} {o : Oper} (ho : ops[i]? = some o) (hd : o.dst = some d) (hr : Ready ops L i) (hg : gl[k0]? = some (i, true)) (hk : r ≤ k0) {v : Value} {obj : Obj} {room : Nat} {ob : Ob} (hN : Named (K k0) ob (K (k0 + 1))) (hM : Made (K k0).nx ob (val i) v ⟨w.heap.size, 0, room⟩ obj) :
    Jv n ops gl val K tm0 ι0 w0 ds (also L i) r ι (fun k => if k = k0 then ⟨w.heap.size, 0, room⟩ else Z k) (fun k => if k = k0 then v else V k) (fun k => if k = k0 then obj else O k) (a.put o.dst v) (w.alloc obj) := by
  have hother : ∀ {k j f}, gl[k]? = some (j, f) → k ≠ k0 → j ≠ i := by
    rintro k j f h1 h2 rfl
    exact h2 ((chainB_spec hD.chain hg).2.2 k f h1)
  refine ⟨put_size.trans hJ.sz, put_defers.trans hJ.df, hJ.ext.trans (Ext.grow obj), hJ.hr.grow obj, hJ.dc.also hr, hJ.gb, hJ.rle, fun k j f h1 h2 => also_of (hJ.pre k j f h1 h2), ?_, ?_, ?_⟩
  · intro s hs hp
    by_cases e : o.dst = some s
    · have := hp k0 i true (uniB_spec hD.uni ho e) (also_same L i) hg
      omega
    · have hne : ∀ j, wrOf ops s = some j → j ≠ i := by
        rintro j hw rfl
        obtain ⟨o', h1, h2⟩ := wrOf_spec hw
        rw [ho] at h1
        cases h1
        exact e h2
      have : slotV ops val (also L i) tm0 s = slotV ops val L tm0 s := by
        unfold slotV
        cases hw : wrOf ops s with
        | none => rfl
        | some j => simp only [also_other (hne j hw)]
      rw [this, put_other e]
      exact hJ.slot s hs fun k j f h1 h2 h3 => hp k j f h1 (also_of h2) h3
  · intro k j f hkr hgk hL
    by_cases e : k = k0
    · subst e
      rw [hg] at hgk
      cases hgk
      simp only [if_true]
      refine ⟨trivial, o, d, ob, ho, hd, fun hdn => ?_, hM, hN, World.alloc_heap_new _ _, hJ.ext.size, fun b o x _ hx h => ?_⟩
      · rw [hd, put_same (by rw [hJ.sz]; exact hdn)]
      · have := hJ.hr.lt b x hx
        omega
    · have hji := hother hgk e
      rw [also_other hji] at hL
      obtain ⟨g1, o', d', ob', g2, g3, g4, g5, g6, g7, g8, g9⟩ := hJ.pend k j f hkr hgk hL
      simp only [if_neg e]
      refine ⟨g1, o', d', ob', g2, g3, fun hdn => ?_, g5, g6, (alloc_old w obj (lt_size g7)).trans g7, g8, g9⟩
      rw [put_other fun e' => ?_]
      · exact g4 hdn
      · have h1 := uniB_spec hD.uni ho e'
        have h2 := uniB_spec hD.uni g2 g3
        rw [h1] at h2
        cases h2
        exact hji rfl
  · intro k k' j j' f f' h1 h2 h3 h4 h5 h6 hb
    have hlt : ∀ {k j f}, r ≤ k → gl[k]? = some (j, f) → k ≠ k0 → also L i j = true → (Z k).block < w.heap.size := by
      intro k j f h1 h3 hne h5
      rw [also_other (hother h3 hne)] at h5
      obtain ⟨_, _, _, _, _, _, _, _, _, g7, _⟩ := hJ.pend k j f h1 h3 h5
      exact lt_size g7
    by_cases e : k = k0
    · by_cases e' : k' = k0
      · rw [e, e']
      · simp only [if_pos e, if_neg e'] at hb
        have := hlt h2 h4 e' h6
        omega
    · by_cases e' : k' = k0
      · simp only [if_neg e, if_pos e'] at hb
        have := hlt h1 h3 e h5
        omega
      · simp only [if_neg e, if_neg e'] at hb
        rw [also_other (hother h3 e)] at h5
        rw [also_other (hother h4 e')] at h6
        exact hJ.dist k k' j j' f f' h1 h2 h3 h4 h5 h6 hb
theorem slotsOk_spec [Sig] (h : slotsOk n ops gl = true) {i : Nat} {o : Oper} (ho : ops[i]? = some o) {s : Nat} (hs : s ∈ o.looksAt ops) : s < n ∧ ∀ j, wrOf ops s = some j → j = i ∨ (befB ops j i = true ∧ ∀ (k k' j' : Nat) (f' : Bool), gl[k]? = some (j, true) → k' ≤ k → gl[k']? = some (j', f') → Bef ops j' i) ∨ Bef ops i j := by
  have hm : (o, i) ∈ ops.toList.zipIdx := mem_zipIdx (by simpa using ho)
  have := List.all_eq_true.1 (List.all_eq_true.1 h _ hm) s hs
  unfold slotOk at this
  obtain ⟨h1, h2⟩ := Bool.and_eq_true_iff.1 this
  refine ⟨blt_true h1, fun j hw => ?_⟩
  simp only [hw, Bool.or_eq_true, Bool.and_eq_true] at h2
  rcases h2 with h2 | ⟨h2, h3⟩ | h2
  · exact .inl (beq_true h2)
  · refine .inr (.inl ⟨h2, fun k k' j' f' hk hk' hj' => ?_⟩)
    have := List.all_eq_true.1 h3 _ (mem_zipIdx hk)
    simp at this
    exact befAll_spec this (Nat.lt_succ_of_le hk') hj'
  · exact .inr (.inr (befB_spec h2))
/-- every order that is let comes to the same -/
theorem sched_runs [Sig] (hD : Dat P n ops gl val K tm0) : ∀ (l : List Nat) (L : Nat → Bool) (r : Nat) (ι : Inj) (Z : Nat → Loc) (V : Nat → Value) (O : Nat → Obj) (a : Act) (w : World), Jv n ops gl val K tm0 ι0 w0 ds L r ι Z V O a w → (∀ i f, gl[r]? = some (i, f) → L i = false) → Sched ops L l →
    ∀ (b : Frame) (cs : List Frame) (ks : List Item), ∃ a' w' ι', Ext ι0 (K 0) w0 ι' (K gl.length) w' ∧ HR ι' (K gl.length) w' ∧ a'.tmps.size = n ∧ a'.defers = ds ∧ (∀ s, s < n → (slotV ops val (fun _ => true) tm0 s).R ι' (a'.tmps.getD s undef)) ∧
      Steps P (lone (b.atR a (.inRegion ops l :: ks)) cs w) (lone (b.atR a' (.inRegion ops [] :: ks)) cs w')
  | [], L, r, ι, Z, V, O, a, w, hJ, hst, hS => by
    intro b cs ks
    have hr : r = gl.length := by
      rcases Nat.lt_or_ge r gl.length with h | h
      · have hg : gl[r]? = some (gl[r].1, gl[r].2) := by simp [h]
        have h1 := hst _ _ hg
        rw [hS _ (chainB_spec hD.chain hg).1] at h1
        cases h1
      · exact Nat.le_antisymm hJ.rle h
    subst hr
    refine ⟨a, w, ι, hJ.ext, hJ.hr, hJ.sz, hJ.df, fun s hs => ?_, .refl _ _⟩
    have := hJ.slot s hs fun k j f _ _ hg => (List.getElem?_eq_some_iff.1 hg).1
    have e : slotV ops val L tm0 s = slotV ops val (fun _ => true) tm0 s := by
      unfold slotV
      cases hw : wrOf ops s with
      | none => rfl
      | some j =>
        obtain ⟨o, h1, _⟩ := wrOf_spec hw
        simp [hS j (Array.getElem?_eq_some_iff.1 h1).1]
    rwa [e] at this
  | i :: l, L, r, ι, Z, V, O, a, w, hJ, hst, hS => by
    intro b cs ks
    obtain ⟨his, hLi, hR, hS'⟩ := hS
    have ho : ops[i]? = some ops[i] := Array.getElem?_eq_getElem his
    generalize ops[i] = o at ho
    have hno : ∀ {j}, Bef ops i j → L j = true → False := fun h hj => by
      have := h.down hJ.dc hj
      rw [hLi] at this
      cases this
    have hloc : LocR ι n (sv ops val tm0 i) (o.looksAt ops) a := by
      refine ⟨hJ.sz, fun s hs => ?_⟩
      obtain ⟨hsn, hw⟩ := slotsOk_spec hD.slots ho hs
      have h1 := hJ.slot s hsn fun k j f h1 h2 h3 => by
        rcases Nat.lt_or_ge k r with h | h
        · exact h
        · exfalso
          obtain ⟨rfl, _⟩ := hJ.pend k j f h h3 h2
          rcases hw j h1 with e | ⟨_, e⟩ | e
          · rw [e, hLi] at h2; cases h2
          · have hk := (List.getElem?_eq_some_iff.1 h3).1
            have hrl : r < gl.length := by omega
            have hg : gl[r]? = some (gl[r].1, gl[r].2) := by simp [hrl]
            have h4 := (e k r _ _ h3 h hg).ready hJ.dc hR
            rw [hst _ _ hg] at h4
            cases h4
          · exact hno e h2
      have e : slotV ops val L tm0 s = sv ops val tm0 i s := by
        unfold sv slotV
        cases hwr : wrOf ops s with
        | none => rfl
        | some j =>
          have : L j = befB ops j i := by
            cases hb : befB ops j i with
            | true => exact (befB_spec hb).ready hJ.dc hR
            | false =>
              cases hL : L j with
              | false => rfl
              | true =>
                exfalso
                rcases hw j hwr with e | ⟨e, _⟩ | e
                · rw [e, hLi] at hL; cases hL
                · rw [hb] at e; cases e
                · exact hno e hL
          simp only [this]
      rwa [e] at h1
    by_cases hc : ∃ (k : Nat) (f : Bool), gl[k]? = some (i, f)
    · obtain ⟨k, f, hg⟩ := hc
      have hkr : r ≤ k := by
        rcases Nat.lt_or_ge k r with h | h
        · have := hJ.pre k i f h hg
          rw [hLi] at this
          cases this
        · exact h
      cases f with
      | false =>
        have hk : k = r := by
          refine Nat.le_antisymm ?_ hkr
          rcases Nat.lt_or_ge r k with h | h
          · have hrl : r < gl.length := by have := (List.getElem?_eq_some_iff.1 hg).1; omega
            have hgr : gl[r]? = some (gl[r].1, gl[r].2) := by simp [hrl]
            have h4 := ((chainB_spec hD.chain hg).2.1 rfl r _ _ h hgr).ready hJ.dc hR
            rw [hst _ _ hgr] at h4
            cases h4
          · exact h
        subst hk
        obtain ⟨v, w', ι', hE, hH, hv, hs⟩ := hD.real k i o hg ho ι a w hloc hJ.hr b cs l ks
        obtain ⟨r', ι'', hJ', hst'⟩ := Jv.advance _ _ _ (Nat.le_refl _) (hJ.step hD ho hR (.inr ⟨rfl, hg⟩) hE hH hv)
        obtain ⟨a'', w'', ι₃, g1, g2, g3, g4, g5, g6⟩ := sched_runs hD l _ _ _ _ _ _ _ _ hJ' hst' hS' b cs ks
        exact ⟨a'', w'', ι₃, g1, g2, g3, g4, g5, Steps.trans hs g6⟩
      | true =>
        obtain ⟨⟨ob, hN, hfg⟩, d, hd⟩ := hD.free k i o hg ho
        obtain ⟨v, obj, room, hM, hs⟩ := hfg ι a w hloc b cs l ks
        obtain ⟨r', ι'', hJ', hst'⟩ := Jv.advance _ _ _ (Nat.le_refl _) (hJ.make hD ho hd hR hg hkr hN hM)
        obtain ⟨a'', w'', ι₃, g1, g2, g3, g4, g5, g6⟩ := sched_runs hD l _ _ _ _ _ _ _ _ hJ' hst' hS' b cs ks
        exact ⟨a'', w'', ι₃, g1, g2, g3, g4, g5, Steps.trans hs g6⟩
    · have hc : ∀ (k : Nat) (f : Bool), gl[k]? ≠ some (i, f) := fun k f h => hc ⟨k, f, h⟩
      obtain ⟨v, w', ι', hE, hH, hv, hs⟩ := hD.read i o r ho hc hJ.rle (fun j f hg => by
        cases hb : befB ops j i with
        | false => rfl
        | true =>
          have := (befB_spec hb).ready hJ.dc hR
          rw [hst j f hg] at this
          cases this) (fun k j f hk hg => by
        cases hb : befB ops i j with
        | false => rfl
        | true => exact (hno (befB_spec hb) (hJ.pre k j f hk hg)).elim) ι a w hloc hJ.hr b cs l ks
      obtain ⟨a'', w'', ι₃, g1, g2, g3, g4, g5, g6⟩ := sched_runs hD l _ _ _ _ _ _ _ _ (hJ.step hD ho hR (.inl ⟨rfl, hc⟩) hE hH hv) (fun j f hg => by
        rw [also_other (fun e => hc r f (by rw [hg, e]))]
        exact hst j f hg) hS' b cs ks
      exact ⟨a'', w'', ι₃, g1, g2, g3, g4, g5, Steps.trans hs g6⟩
theorem dat_of [Sig] {D : Dt} (hD : DS P D) {pl : List In} (hp : planB P n ops gl pl = true) {tm : Tn} {H : Hp} {k : Tn → Hp → Bool} (h : runP D (pl.map (stp P n ops)) tm H k = true) :
    ∃ val K tm', k tm' (K gl.length) = true ∧ K 0 = H ∧ (∀ s, tm'.get s = slotV ops val (fun _ => true) tm.get s) ∧ Dat P n ops gl val K tm.get := by
  unfold planB at hp
  simp only [Bool.and_eq_true] at hp
  obtain ⟨h1, h2, h3, h4, h5, h6⟩ := hp
  obtain ⟨val, K, tm', r1, _, r3, r4, r5⟩ := run_facts (n := n) hD h2 pl (fun _ => false) 0 (fun _ => .s (.oth .und)) (fun _ => H) tm H h6 h rfl (tm0 := tm.get) (fun s => by
    unfold slotV
    cases wrOf ops s <;> rfl)
  refine ⟨val, K, tm', r1, r3 0 (Nat.le_refl _), r4, h1, h2, h3, h4, ?_, ?_, ?_⟩
  · exact fun k i o hg ho => (facts_chain ho hg h6 r5 (Nat.zero_le _)).1 rfl
  · exact fun k i o hg ho => (facts_chain ho hg h6 r5 (Nat.zero_le _)).2 rfl
  · intro i o r ho hc hr ha hb
    have := List.all_eq_true.1 h5 i (List.mem_range.2 (Array.getElem?_eq_some_iff.1 ho).1)
    rw [Bool.or_eq_true] at this
    rcases this with h | h
    · obtain ⟨⟨j, f⟩, hg, e⟩ := List.any_eq_true.1 h
      obtain ⟨k, hk⟩ := List.mem_iff_getElem?.1 hg
      have e : j = i := beq_true e
      subst e
      exact absurd hk (hc k f)
    · have := List.all_eq_true.1 h r (List.mem_range.2 (by omega))
      rw [Bool.or_eq_true, Bool.or_eq_true] at this
      rcases this with h | h | h
      · cases hg : gl[r]? with
        | none => rw [hg] at h; cases h
        | some g =>
          rw [hg] at h
          have h : befB ops g.1 i = true := h
          have := ha g.1 g.2 hg
          rw [this] at h
          cases h
      · obtain ⟨⟨j, f⟩, hg, e⟩ := List.any_eq_true.1 h
        obtain ⟨k, hk⟩ := List.mem_iff_getElem?.1 hg
        rw [List.getElem?_take] at hk
        split at hk
        · have := hb k j f (by assumption) hk
          rw [this] at e
          cases e
        · cases hk
      · obtain ⟨⟨j, r'⟩, hg, e⟩ := List.any_eq_true.1 h
        obtain ⟨e1, e2⟩ := Bool.and_eq_true_iff.1 e
        have e1 : j = i := beq_true e1
        have e2 : r' = r := beq_true e2
        subst e1
        subst e2
        exact facts_read ho r5 hg
noncomputable def drawC (P : Program) (n : Nat) (ops : Array Oper) (gl : List (Nat × Bool)) (pl : List In) : Cd :=
  Bool.rec badC ⟨fun D kn _ _ fr H => runP D (pl.map (stp P n ops)) fr.tm H fun tm' H' => kn ⟨tm', fr.ds, fr.rd⟩ H'⟩ (planB P n ops gl pl)
theorem drawC_sound [Sig] (hm : P.follows .mixedOrders = true) {f id : Nat} {pl : List In} : CdSound P f n (drawC P n ops gl pl) (.region id ops true) := by
  unfold drawC
  cases hp : planB P n ops gl pl with
  | false => exact badC_sound _
  | true =>
    intro D kn kx kr fr H hD hr
    obtain ⟨val, K, tm', h1, h2, h3, hdat⟩ := dat_of hD hp (show runP D (pl.map (stp P n ops)) fr.tm H (fun tm' H' => kn ⟨tm', fr.ds, fr.rd⟩ H') = true from hr)
    refine ⟨.n, ⟨tm', fr.ds, fr.rd⟩, K gl.length, h1, rfl, fun ι a w r _ hR b k cs _ _ => ?_⟩
    have hJ : Jv n ops gl val K fr.tm.get ι w.drew a.defers (fun _ => false) 0 ι (fun _ => ⟨0, 0, 0⟩) (fun _ => undef) (fun _ => .deferred none) a w.drew := by
      refine ⟨hR.tm.1, rfl, Ext.refl _ _ _, (by rw [h2]; exact hR.hr.drew), (fun _ _ _ h => by cases h), hR.hr.amb.gb, Nat.zero_le _, fun k _ _ h => absurd h (Nat.not_lt_zero k), fun s hs _ => ?_, (fun _ _ _ _ _ h => by cases h), (fun _ _ _ _ _ _ _ _ _ _ h => by cases h)⟩
      have : slotV ops val (fun _ => false) fr.tm.get s = fr.tm.get s := by unfold slotV; cases wrOf ops s <;> rfl
      rw [this]
      exact hR.tm.2 s hs
    have hS := sched_of hdat.down (w.tape w.drawn (.order b.fn id))
    obtain ⟨a', w', ι', g1, g2, g3, g4, g5, g6⟩ := sched_runs hdat _ _ _ _ _ _ _ _ _ hJ (fun _ _ _ => rfl) hS b cs k
    have hE : Ext ι H w ι' (K gl.length) w' := by
      refine Ext.trans (Ext.drew) ?_
      rw [h2] at g1
      exact g1
    refine ⟨a', w', ι', hE, ⟨⟨g3, fun t ht => by rw [h3 t]; exact g5 t ht⟩, by rw [g4]; exact hR.ds.mono hE.le, g2⟩, ?_⟩
    have hs := stepR_region_draw (P := P) (b := b) (a := a) (k := k) (cs := cs) (w := w) (ops := ops) (id := id)
    rw [hm] at hs
    exact (Steps.one hs).trans (Steps.trans g6 (.one stepR_region_end))
end
end Go.Proofs.YtmdciljpcnokcaaGreatDoor.Ex
/-
  A run of closed code by the kernel: how a region that draws its order is gone through; all of it together.
-/
namespace Go.Proofs.YtmdciljpcnokcaaGreatDoor.Ex
def mkGl (P : Program) (ops : Array Oper) : List (Oper × Nat) → List Nat → List (Nat × Bool)
  | [], free => free.map fun i => (i, true)
  | (o, i) :: os, free => if stillB P o = true then mkGl P ops os free else if freeB P o = true then mkGl P ops os (free ++ [i]) else
    ((free.filter fun j => befB ops j i).map fun j => (j, true)) ++ (i, false) :: mkGl P ops os (free.filter fun j => !befB ops j i)
def mkPl (ops : Array Oper) (gl : List (Nat × Bool)) : List (Nat × Bool) → Nat → List Nat → List Nat → List In
  | [], c, todo, done => ((done.filter fun i => !(gl.take c).any fun g => befB ops i g.1).map .ck) ++ todo.map .rd
  | g :: rest, c, todo, done => ((done.filter fun i => !(gl.take c).any fun g => befB ops i g.1).map .ck) ++ ((todo.filter fun i => (gl.drop c).all fun g => !befB ops g.1 i).map .rd ++
    (if g.2 = true then .fr g.1 else .ch g.1) :: mkPl ops gl rest (c + 1) (todo.filter fun i => (gl.drop c).any fun g => befB ops g.1 i) (done ++ todo.filter fun i => (gl.drop c).all fun g => !befB ops g.1 i))
def glOf (P : Program) (ops : Array Oper) : List (Nat × Bool) := mkGl P ops ops.toList.zipIdx []
def plOf (P : Program) (ops : Array Oper) : List In := mkPl ops (glOf P ops) (glOf P ops) 0 ((List.range ops.size).filter fun i => !(glOf P ops).any fun g => Nat.beq g.1 i) []
noncomputable def drOf (P : Program) (n : Nat) (ops : Array Oper) : Cd := drawC P n ops (glOf P ops) (plOf P ops)
noncomputable def cmpOf (P : Program) : Cmp := ⟨P, crOf P, gtOf, drOf P⟩
theorem cmpOf_ok [Sig] {P : Program} (hm : P.follows .mixedOrders = true) : CmpOk (cmpOf P) := ⟨crOf_sound, gtOf_sound, fun _ _ _ _ => drawC_sound hm⟩
end Go.Proofs.YtmdciljpcnokcaaGreatDoor.Ex
