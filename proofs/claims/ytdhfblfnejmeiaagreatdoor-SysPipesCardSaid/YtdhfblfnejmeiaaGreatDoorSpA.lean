/-
  A machine with one process, as a call has it: its lists in blocks of the call's own; the kernel that does a call.
-/
import Derived.Test.YtdhfblfnejmeiaaGreatDoorMcA
namespace Go.Proofs.YtdhfblfnejmeiaaGreatDoor
open Go.RowKit

theorem grown_setK (w : World) (g K : Nat) (v : Value) : w.grownBy (w.setCell ⟨g, K, none⟩ v) (some g) :=
  ⟨rfl, rfl, rfl, by simp [World.setCell], fun k _ hn => Below.heap_setCell _ _ _ _ (by intro e; exact hn (by rw [e]))⟩
theorem grown_refl (w : World) (X : Option Nat) : w.grownBy w X := ⟨rfl, rfl, rfl, Nat.le_refl _, fun _ _ _ => rfl⟩
theorem grown_trans {a b c : World} {X : Option Nat} (h : a.grownBy b X) (k : b.grownBy c X) : a.grownBy c X :=
  ⟨k.os.trans h.os, k.tape.trans h.tape, k.output.trans h.output, Nat.le_trans h.size k.size, fun i hi hx => (k.block i (Nat.lt_of_lt_of_le hi h.size) hx).trans (h.block i hi hx)⟩
theorem grown_of_below {a b : World} {X : Option Nat} (h : Below a.heap.size a b) : a.grownBy b X := ⟨h.os, h.tape, h.output, h.size, fun i hi _ => h.block i hi⟩
theorem below_one {B g : Nat} {a b c : World} (h : Below B a b) (hB : B ≤ b.heap.size) (k : b.grownBy c (some g)) (hg : B ≤ g) : Below B a c := h.grown k hB fun q e => by injection e with e; omega
theorem own_cap {w : World} {base : Nat} {e : TypeId} {size n c : Nat} {A : Option Addr} {xs : List Value} (h : w.ownsRow base e size (.slice A n c) n xs) : n ≤ c := by
  rcases h.2 with ⟨h, _⟩ | ⟨g, cap, cur, h, _, _, hc, _⟩
  · injection h with _ h1 h2; omega
  · injection h with _ h1 h2; omega
theorem Tryz.infoPs : (Tryz.prog.info? 47).map (fun i => decide (i.bytes ≤ 10000)) = some true := by kernel_rfl
theorem info_proc : ∃ i, Tryz.prog.info? 47 = some i ∧ i.zero = some (.agg (prCells zeroPr).toArray) ∧ i.size = 96 ∧ i.bytes ≤ 10000 := by
  have h1 := Tryz.infoPr
  have h2 := Tryz.infoPs
  cases hq : Tryz.prog.info? 47 with
  | none => rw [hq] at h1; simp at h1
  | some i => rw [hq] at h1 h2; simp only [Option.map_some, Option.some.injEq, Prod.mk.injEq, decide_eq_true_eq] at h1 h2; exact ⟨i, rfl, h1.1, h1.2, h2⟩
theorem Tryz.infoPi3 : (Tryz.prog.info? 73).map (fun i => (i.zero, i.size, i.bytes)) = some (some (.agg #[.int .i64 0, .string ⟨#[]⟩]), 2, 24) := by kernel_rfl
theorem Tryz.infoWr3 : (Tryz.prog.info? 77).map (fun i => (i.zero, i.size, i.bytes)) = some (some (.agg #[.int .i64 0, .string ⟨#[]⟩]), 2, 24) := by kernel_rfl
/-- the machine without anything -/
def zeroMc : Mc := ⟨0, 0, 0, 0, [], [], 0, [], [], 0, [], false, 0, [], [], 0, []⟩
def zeroMA : MA := ⟨none, none, none, none, none, none, 0, 0, 0, 0, 0, 0⟩
abbrev zeroML : List Value := mcL zeroMA zeroMc
/-- a block of a type -/
def Typed (w : World) (g : Nat) (ty : TypeId) : Prop := ∃ cs fr, w.heap[g]? = some (.cells cs ty fr)
theorem Typed.lt {w : World} {g : Nat} {ty : TypeId} (h : Typed w g ty) : g < w.heap.size := by
  obtain ⟨_, _, h⟩ := h
  exact (Array.getElem?_eq_some_iff.1 h).1
theorem Typed.keep {w w' : World} {g : Nat} {ty : TypeId} (h : Typed w g ty) (e : w'.heap[g]? = w.heap[g]?) : Typed w' g ty := by
  obtain ⟨cs, fr, h⟩ := h
  exact ⟨cs, fr, e.trans h⟩
theorem Typed.ne {w : World} {g g' : Nat} {ty ty' : TypeId} (h : Typed w g ty) (k : Typed w g' ty') (hne : ty ≠ ty') : g ≠ g' := by
  rintro rfl
  obtain ⟨_, _, h⟩ := h
  obtain ⟨_, _, k⟩ := k
  rw [h] at k
  injection k with k; injection k with _ k
  exact hne k
theorem Whole.typed {w : World} {g : Nat} {ty : TypeId} {cs : Array Value} (h : Whole w g ty cs) : Typed w g ty := ⟨_, _, h⟩
/-- a list in blocks that are allowed, apart from the processes' -/
def LX (w : World) (ok : Nat → Prop) (pb : Nat) (ty : TypeId) (X : Option Addr) (xs : List Value) : Prop := Lies w w.heap.size X xs ∧ ∀ ad, X = some ad → ok ad.block ∧ ad.block ≠ pb ∧ Typed w ad.block ty
theorem LX.below {w w' : World} {ok : Nat → Prop} {pb : Nat} {ty : TypeId} {X : Option Addr} {xs : List Value} (h : LX w ok pb ty X xs) (hb : Below w.heap.size w w') : LX w' ok pb ty X xs := ⟨(Lies.below h.1 hb).wide hb.size, fun ad e => ⟨(h.2 ad e).1, (h.2 ad e).2.1, (h.2 ad e).2.2.keep (hb.block _ (h.2 ad e).2.2.lt)⟩⟩
theorem LX.far {w w' : World} {ok : Nat → Prop} {pb : Nat} {q : Option Nat} {ty : TypeId} {X : Option Addr} {xs : List Value} (h : LX w ok pb ty X xs) (hk : w.grownBy w' q) (hq : ∀ ad, X = some ad → some ad.block ≠ q) : LX w' ok pb ty X xs := ⟨fun k v hv => by
  obtain ⟨ad, e, hb, hc⟩ := h.1 k v hv
  refine ⟨ad, e, Nat.lt_of_lt_of_le hb hk.size, ?_⟩
  rw [← hc]
  unfold World.cell?
  rw [add_block, hk.block ad.block hb (hq ad e)], fun ad e => ⟨(h.2 ad e).1, (h.2 ad e).2.1, (h.2 ad e).2.2.keep (hk.block _ (h.2 ad e).2.2.lt (hq ad e))⟩⟩
theorem LX.other {w w' : World} {ok : Nat → Prop} {pb q : Nat} {ty : TypeId} {X : Option Addr} {xs : List Value} (h : LX w ok pb ty X xs) (hk : w.grownBy w' (some q)) (hq : ¬ ok q ∨ q = pb) : LX w' ok pb ty X xs := h.far hk fun ad e e2 => by
  injection e2 with e2
  have := h.2 ad e
  rcases hq with hq | hq
  · exact hq (e2 ▸ this.1)
  · exact this.2.1 (e2.trans hq)
theorem LX.mono {w : World} {ok ok' : Nat → Prop} {pb : Nat} {ty : TypeId} {X : Option Addr} {xs : List Value} (h : LX w ok pb ty X xs) (ho : ∀ g, ok g → ok' g) : LX w ok' pb ty X xs := ⟨h.1, fun ad e => ⟨ho _ (h.2 ad e).1, (h.2 ad e).2⟩⟩
def CapM (a : MA) (m : Mc) : Prop := m.frames.length ≤ a.cF ∧ m.procs.length ≤ a.cP ∧ m.pipes.length ≤ a.cQ ∧ m.blocks.length ≤ a.cL ∧ m.pend.length ≤ a.cN ∧ m.dirty.length ≤ a.cD
/-- a row of the call's own, behind other writes -/
theorem ownr_below {w w' : World} {base : Nat} {e : TypeId} {size n : Nat} {v : Value} {xs : List Value} (h : w.ownsRow base e size v n xs) (hb : Below w.heap.size w w') : w'.ownsRow base e size v n xs :=
  h.kept (row := none) (grown_of_below hb) (Classical.em _)
theorem own_one {w w' : World} {base q : Nat} {e : TypeId} {size n : Nat} {v : Value} {xs : List Value} (h : w.ownsRow base e size v n xs) (hk : w.grownBy w' (some q)) (hq : q < base) : w'.ownsRow base e size v n xs :=
  h.kept hk (.inr fun e => by have := (h.lt q e).1; omega)
theorem own_mono {w : World} {base base' : Nat} {e : TypeId} {size n : Nat} {v : Value} {xs : List Value} (h : w.ownsRow base e size v n xs) (hb : base' ≤ base) : w.ownsRow base' e size v n xs :=
  ⟨h.1, h.2.imp id fun ⟨g, cap, cur, hv, hg, r⟩ => ⟨g, cap, cur, hv, Nat.le_trans hb hg, r⟩⟩
theorem LX.own {w w' : World} {ok : Nat → Prop} {pb q n c : Nat} {ty : TypeId} {X : Option Addr} {xs ys : List Value} (h : LX w ok pb ty X xs) {base : Nat} {e : TypeId} {size : Nat} (ho : w.ownsRow base e size (.slice X n c) n ys) (hk : w.grownBy w' (some q)) (hq : ¬ ok q ∨ q = pb) : w'.ownsRow base e size (.slice X n c) n ys :=
  ho.kept hk (by
    cases X with
    | none => exact .inl rfl
    | some ad =>
      refine .inr fun e => ?_
      injection e with e
      have := h.2 ad rfl
      rcases hq with hq | hq
      · exact hq (e ▸ this.1)
      · exact this.2.1 (e.trans hq))
/-- a machine of one process, its lists in blocks that are allowed -/
structure OM (w : World) (ok : Nat → Prop) (a : MA) (m : Mc) (p : Pr) (pb : Nat) (z : List Value) : Prop where
  aP : a.P = some ⟨pb, 0, none⟩
  pr : Whole w pb 47 (prCells p ++ z).toArray
  okp : ok pb
  F : LX w ok pb 9 a.F (m.frames.map S)
  Q : LX w ok pb 73 a.Q (nbCells m.pipes)
  L : LX w ok pb 9 a.L (m.blocks.map S)
  N : LX w ok pb 77 a.N (nbCells m.pend)
  D : LX w ok pb 77 a.D (nbCells m.dirty)
  cap : CapM a m
  one : m.procs = [p]
  qo : w.ownsRow 0 73 2 (.slice a.Q m.pipes.length a.cQ) m.pipes.length (nbCells m.pipes)
theorem OM.below {w w' : World} {ok : Nat → Prop} {a : MA} {m : Mc} {p : Pr} {pb : Nat} {z : List Value} (h : OM w ok a m p pb z) (hb : Below w.heap.size w w') : OM w' ok a m p pb z :=
  ⟨h.aP, h.pr.below hb h.pr.lt, h.okp, h.F.below hb, h.Q.below hb, h.L.below hb, h.N.below hb, h.D.below hb, h.cap, h.one, ownr_below h.qo hb⟩
theorem OM.other {w w' : World} {ok : Nat → Prop} {a : MA} {m : Mc} {p : Pr} {pb q : Nat} {z : List Value} (h : OM w ok a m p pb z) (hk : w.grownBy w' (some q)) (hq : ¬ ok q) : OM w' ok a m p pb z :=
  ⟨h.aP, h.pr.other hk (by intro e; injection e with e; exact hq (e ▸ h.okp)), h.okp, h.F.other hk (.inl hq), h.Q.other hk (.inl hq), h.L.other hk (.inl hq), h.N.other hk (.inl hq), h.D.other hk (.inl hq), h.cap, h.one, h.Q.own h.qo hk (.inl hq)⟩
/-- the process is another one, in the same place -/
theorem OM.proc {w w' : World} {ok : Nat → Prop} {a : MA} {m : Mc} {p : Pr} {pb : Nat} {z : List Value} (h : OM w ok a m p pb z) (hk : w.grownBy w' (some pb)) (q : Pr) (hp : Whole w' pb 47 (prCells q ++ z).toArray) : OM w' ok a { m with procs := [q] } q pb z :=
  ⟨h.aP, hp, h.okp, h.F.other hk (.inr rfl), h.Q.other hk (.inr rfl), h.L.other hk (.inr rfl), h.N.other hk (.inr rfl), h.D.other hk (.inr rfl), by have := h.cap; unfold CapM at *; rw [h.one] at this; exact this, rfl, h.Q.own h.qo hk (.inr rfl)⟩
/-- the pipes are others -/
theorem OM.pipes {w w' : World} {ok : Nat → Prop} {a : MA} {m : Mc} {p : Pr} {pb : Nat} {q : Option Nat} {z : List Value} (h : OM w ok a m p pb z) (hk : w.grownBy w' q) (hq : ∀ g ty, q = some g → Typed w g ty → ty = 73) {X : Option Addr} {cx : Nat} {qs : List Nb} (np : Int) (hX : LX w' ok pb 73 X (nbCells qs)) (ho : w'.ownsRow 0 73 2 (.slice X qs.length cx) qs.length (nbCells qs)) : OM w' ok { a with Q := X, cQ := cx } { m with pipes := qs, newPipe := np } p pb z :=
  ⟨h.aP, h.pr.other hk (by intro e; exact absurd (hq _ _ e.symm h.pr.typed) (by decide)), h.okp, h.F.far hk (fun ad e e2 => absurd (hq _ _ e2.symm (h.F.2 ad e).2.2) (by decide)), hX, h.L.far hk (fun ad e e2 => absurd (hq _ _ e2.symm (h.L.2 ad e).2.2) (by decide)), h.N.far hk (fun ad e e2 => absurd (hq _ _ e2.symm (h.N.2 ad e).2.2) (by decide)), h.D.far hk (fun ad e e2 => absurd (hq _ _ e2.symm (h.D.2 ad e).2.2) (by decide)), ⟨h.cap.1, h.cap.2.1, own_cap ho, h.cap.2.2.2⟩, h.one, ho⟩
theorem OM.mono {w : World} {ok ok' : Nat → Prop} {a : MA} {m : Mc} {p : Pr} {pb : Nat} {z : List Value} (h : OM w ok a m p pb z) (ho : ∀ g, ok g → ok' g) : OM w ok' a m p pb z :=
  ⟨h.aP, h.pr, ho _ h.okp, h.F.mono ho, h.Q.mono ho, h.L.mono ho, h.N.mono ho, h.D.mono ho, h.cap, h.one, h.qo⟩
theorem OM.lies {w : World} {ok : Nat → Prop} {a : MA} {m : Mc} {p : Pr} {pb : Nat} {z : List Value} (h : OM w ok a m p pb z) : Lies w w.heap.size a.P (prsCells m.procs) := fun k v hv => by
  rw [h.one] at hv
  have hv' : (prCells p)[k]? = some v := by simpa [prsCells] using hv
  refine ⟨_, h.aP, h.pr.lt, ?_⟩
  rw [show (⟨pb, 0, none⟩ : Addr).add k = ⟨pb, k, none⟩ by unfold Addr.add; split <;> simp_all, h.pr.cell, List.getElem?_toArray, List.getElem?_append_left (List.getElem?_eq_some_iff.1 hv').1]
  exact hv'
theorem OM.mat {w : World} {ok : Nat → Prop} {a : MA} {m : Mc} {p : Pr} {pb : Nat} {z : List Value} (h : OM w ok a m p pb z) : MAt w w.heap.size a m := ⟨h.F.1, h.lies, h.Q.1, h.L.1, h.N.1, h.D.1, h.cap⟩
/-- cells of the process -/
theorem OM.cell {w : World} {ok : Nat → Prop} {a : MA} {m : Mc} {p : Pr} {pb : Nat} {z : List Value} (h : OM w ok a m p pb z) {k : Nat} {v : Value} (hv : (prCells p)[k]? = some v) : w.cell? ⟨pb, k, none⟩ = some v := by
  rw [h.pr.cell, List.getElem?_toArray, List.getElem?_append_left (List.getElem?_eq_some_iff.1 hv).1]; exact hv
/-- one cell of the process is another one -/
theorem OM.set {w : World} {ok : Nat → Prop} {a : MA} {m : Mc} {p : Pr} {pb : Nat} {z : List Value} (h : OM w ok a m p pb z) (q : Pr) (k : Nat) (v : Value) (hk : k < (prCells p).length) (e : (prCells p).set k v = prCells q) : OM (w.setCell ⟨pb, k, none⟩ v) ok a { m with procs := [q] } q pb z :=
  h.proc (grown_setK w pb k v) q (by
    have := h.pr.set k v
    rwa [List.setIfInBounds_toArray, List.set_append_left _ _ hk, e] at this)
/-- the process with other registers, another state .. -/
def Pr.reg (p : Pr) (i : Nat) (x : Int) : Pr := { p with regs := p.regs.set i x }
def Pr.fdSet (p : Pr) (k : Nat) (f : Fl) : Pr := { p with fds := p.fds.set k f }
theorem pr_set_reg {p : Pr} (h : PrOk p) {i : Nat} (hi : i < 16) (x : Int) : (prCells p).set (3 + i) (.int .u32 x) = prCells (p.reg i x) := by
  unfold prCells Pr.reg
  rw [show 3 + i = i + 1 + 1 + 1 by omega, List.set_cons_succ, List.set_cons_succ, List.set_cons_succ, List.set_append_left _ _ (by simp [rgCells, h.regs, hi])]
  simp [rgCells, List.map_set]
theorem pr_set_state (p : Pr) (x : Int) : (prCells p).set 2 (.int .i64 x) = prCells { p with state := x } := rfl
theorem pr_set_pc {p : Pr} (h : PrOk p) (x : Int) : (prCells p).set 19 (.int .u32 x) = prCells { p with pc := x } := by
  unfold prCells
  rw [List.set_cons_succ, List.set_cons_succ, List.set_cons_succ, List.set_append_right _ _ (by simp [rgCells, h.regs])]
  simp [rgCells, h.regs]
theorem pr_tail {p : Pr} (h : PrOk p) (j : Nat) (v : Value) : (prCells p).set (92 + j) v =
    .int .i64 p.pid :: .int .i64 p.parent :: .int .i64 p.state :: (rgCells p.regs ++ (.int .u32 p.pc :: (pgCells p.space ++ (flCells p.fds ++ ([.bool p.mask, .int .u32 p.code, .int .i64 p.why, .int .u64 p.n] : List Value).set j v)))) := by
  unfold prCells
  have e1 : (rgCells p.regs).length = 16 := by simp [rgCells, h.regs]
  have e2 : (pgCells p.space).length = 48 := by rw [pgCells_length, h.space]
  have e3 : (flCells p.fds).length = 24 := by rw [flCells_length, h.fds]
  rw [show 92 + j = j + 89 + 1 + 1 + 1 by omega, List.set_cons_succ, List.set_cons_succ, List.set_cons_succ, List.set_append_right _ _ (by omega), e1, show j + 89 - 16 = j + 72 + 1 by omega, List.set_cons_succ, List.set_append_right _ _ (by omega), e2,
    show j + 72 - 48 = j + 24 by omega, List.set_append_right _ _ (by omega), e3, show j + 24 - 24 = j by omega]
theorem pr_set_why {p : Pr} (h : PrOk p) (x : Int) : (prCells p).set 94 (.int .i64 x) = prCells { p with why := x } := pr_tail h 2 _
theorem pr_set_n {p : Pr} (h : PrOk p) (x : Int) : (prCells p).set 95 (.int .u64 x) = prCells { p with n := x } := pr_tail h 3 _
/-- one open file is another one -/
theorem pr_fd {p : Pr} (h : PrOk p) {k : Nat} (hk : k < 8) (f : Fl) (z : List Value) : (prCells p ++ z).take (68 + 3 * k) ++ (flCells1 f ++ (prCells p ++ z).drop (68 + 3 * k + 3)) = prCells (p.fdSet k f) ++ z := by
  have hf := h.fds
  have e : p.fds = p.fds.take k ++ (p.fds[k]'(by omega) :: p.fds.drop (k + 1)) := by rw [List.getElem_cons_drop, List.take_append_drop]
  obtain ⟨A, hA⟩ : ∃ A, A = p.fds.take k := ⟨_, rfl⟩
  obtain ⟨C, hC⟩ : ∃ C, C = p.fds.drop (k + 1) := ⟨_, rfl⟩
  obtain ⟨x, hx⟩ : ∃ x, x = p.fds[k]'(by omega) := ⟨_, rfl⟩
  have hAl : A.length = k := by rw [hA, List.length_take]; omega
  rw [← hA, ← hC, ← hx] at e
  have es : p.fds.set k f = A ++ (f :: C) := by rw [e, List.set_append_right _ _ (by omega), hAl, Nat.sub_self, List.set_cons_zero]
  obtain ⟨X, hX⟩ : ∃ X : List Value, X = .int .i64 p.pid :: .int .i64 p.parent :: .int .i64 p.state :: (rgCells p.regs ++ (.int .u32 p.pc :: pgCells p.space)) := ⟨_, rfl⟩
  have hXl : X.length = 68 := by rw [hX]; simp [rgCells, h.regs, pgCells_length, h.space]
  obtain ⟨Y, hY⟩ : ∃ Y : List Value, Y = [.bool p.mask, .int .u32 p.code, .int .i64 p.why, .int .u64 p.n] := ⟨_, rfl⟩
  have e1 : prCells p ++ z = (X ++ flCells A) ++ (flCells1 x ++ (flCells C ++ (Y ++ z))) := by
    unfold prCells; rw [e, hX, hY]; simp [flCells]
  have e2 : prCells (p.fdSet k f) ++ z = (X ++ flCells A) ++ (flCells1 f ++ (flCells C ++ (Y ++ z))) := by
    unfold prCells Pr.fdSet; simp only [es]; rw [hX, hY]; simp [flCells]
  have hl : (X ++ flCells A).length = 68 + 3 * k := by rw [List.length_append, hXl, flCells_length, hAl]; omega
  have hx3 : (flCells1 x).length = 3 := rfl
  rw [e1, e2, ← hl, List.take_left, ← List.drop_drop, List.drop_left, ← hx3, List.drop_left]
theorem PrOk.setReg {p : Pr} (h : PrOk p) (i : Nat) {x : Int} (hx : inU32 x) : PrOk (p.reg i x) :=
  ⟨by simp [Pr.reg, h.regs], h.space, h.fds, h.pid, h.parent, h.state, fun r hr => (List.mem_or_eq_of_mem_set hr).elim (h.reg r) (fun e => e ▸ hx), h.pc, h.page, h.fd, h.code, h.why, h.n⟩
theorem PrOk.setFd {p : Pr} (h : PrOk p) (i : Nat) {f : Fl} (hx : inJ8 f.kind ∧ inJ8 f.n ∧ inJ8 f.pos) : PrOk (p.fdSet i f) :=
  ⟨h.regs, h.space, by simp [Pr.fdSet, h.fds], h.pid, h.parent, h.state, h.reg, h.pc, h.page, fun r hr => (List.mem_or_eq_of_mem_set hr).elim (h.fd r) (fun e => e ▸ hx), h.code, h.why, h.n⟩
theorem PrOk.setState {p : Pr} (h : PrOk p) {x : Int} (hx : inJ8 x) : PrOk { p with state := x } := ⟨h.regs, h.space, h.fds, h.pid, h.parent, hx, h.reg, h.pc, h.page, h.fd, h.code, h.why, h.n⟩
theorem PrOk.setPc {p : Pr} (h : PrOk p) {x : Int} (hx : inU32 x) : PrOk { p with pc := x } := ⟨h.regs, h.space, h.fds, h.pid, h.parent, h.state, h.reg, hx, h.page, h.fd, h.code, h.why, h.n⟩
theorem PrOk.setWhy {p : Pr} (h : PrOk p) {x : Int} (hx : inJ8 x) : PrOk { p with why := x } := ⟨h.regs, h.space, h.fds, h.pid, h.parent, h.state, h.reg, h.pc, h.page, h.fd, h.code, hx, h.n⟩
theorem PrOk.setN {p : Pr} (h : PrOk p) {x : Int} (hx : inU64 x) : PrOk { p with n := x } := ⟨h.regs, h.space, h.fds, h.pid, h.parent, h.state, h.reg, h.pc, h.page, h.fd, h.code, h.why, hx⟩
/-- plain facts of a machine with one process, which runs -/
structure Good (m : Mc) (p : Pr) : Prop where
  one : m.procs = [p]
  pid : p.pid = 1
  cur : m.cur = 1
  ok : PrOk p
  mc : McOk m
theorem Good.proc {m : Mc} {p : Pr} (h : Good m p) (q : Pr) (hq : PrOk q) (hp : q.pid = 1) : Good { m with procs := [q] } q :=
  ⟨rfl, hp, h.cur, hq, ⟨h.mc.clock, h.mc.quantum, h.mc.cur, h.mc.left, h.mc.next, h.mc.newPipe, h.mc.told, h.mc.dleft, fun x hx => by rw [List.mem_singleton.1 hx]; exact hq, h.mc.pipes, h.mc.pend, h.mc.dirty, by have := h.mc.sizes; rw [h.one] at this; exact this⟩⟩
/-- the kernel's cells -/
def kcL (a : MA) (m : Mc) (a0 : MA) (m0 : Mc) (x0 x1 x2 : Int) (tl : List UInt8) : List Value := mcL a m ++ (mcL a0 m0 ++ [.int .i64 1, .int .u32 x0, .int .u32 x1, .int .u32 x2, S tl])
/-- a kernel that does a call -/
structure KS (w : World) (B kb : Nat) (a : MA) (m : Mc) (p : Pr) (pb : Nat) (z : List Value) (a0 : MA) (m0 : Mc) (x0 x1 x2 : Int) (tl : List UInt8) : Prop where
  om : OM w (fun g => B ≤ g ∧ g ≠ kb) a m p pb z
  ker : Whole w kb 60 (kcL a m a0 m0 x0 x1 x2 tl).toArray
  hB : B ≤ kb
  good : Good m p
/-- the same, whatever lies where -/
def KE (w : World) (B kb : Nat) (m : Mc) (p : Pr) (x0 x1 x2 : Int) (tl : List UInt8) : Prop := ∃ a pb z a0 m0, KS w B kb a m p pb z a0 m0 x0 x1 x2 tl
section
variable {w w' : World} {B kb : Nat} {a : MA} {m : Mc} {p : Pr} {pb : Nat} {z : List Value} {a0 : MA} {m0 : Mc} {x0 x1 x2 : Int} {tl : List UInt8}
theorem KS.below (h : KS w B kb a m p pb z a0 m0 x0 x1 x2 tl) (hb : Below w.heap.size w w') : KS w' B kb a m p pb z a0 m0 x0 x1 x2 tl := ⟨h.om.below hb, h.ker.below hb h.ker.lt, h.hB, h.good⟩
theorem KE.below (h : KE w B kb m p x0 x1 x2 tl) (hb : Below w.heap.size w w') : KE w' B kb m p x0 x1 x2 tl := by
  obtain ⟨a, pb, z, a0, m0, h⟩ := h
  exact ⟨a, pb, z, a0, m0, h.below hb⟩
theorem KS.pbB (h : KS w B kb a m p pb z a0 m0 x0 x1 x2 tl) : B ≤ pb := h.om.okp.1
theorem KS.pbk (h : KS w B kb a m p pb z a0 m0 x0 x1 x2 tl) : pb ≠ kb := h.om.okp.2
theorem KS.kl (h : KS w B kb a m p pb z a0 m0 x0 x1 x2 tl) : kb < w.heap.size := h.ker.lt
theorem KS.load (h : KS w B kb a m p pb z a0 m0 x0 x1 x2 tl) : ∀ j v, (mcL a m)[j]? = some v → w.cell? ((⟨kb, 0, none⟩ : Addr).add j) = some v :=
  mid_cells h.ker 0 _ fun j v hv => by rw [Nat.zero_add]; unfold kcL; rw [List.getElem?_append_left (List.getElem?_eq_some_iff.1 hv).1]; exact hv
theorem KS.space (h : KS w B kb a m p pb z a0 m0 x0 x1 x2 tl) : ∀ j v, (pgCells p.space)[j]? = some v → w.cell? ((⟨pb, 20, none⟩ : Addr).add j) = some v :=
  mid_cells h.om.pr 20 _ fun j v hv => by
    have hj : j < 48 := by
      have := (List.getElem?_eq_some_iff.1 hv).1
      rw [pgCells_length, h.good.ok.space] at this; exact this
    rw [List.getElem?_append_left (by rw [prCells_length h.good.ok]; omega), pr_space h.good.ok hj]; exact hv
theorem KS.fdl (h : KS w B kb a m p pb z a0 m0 x0 x1 x2 tl) : ∀ j v, (flCells p.fds)[j]? = some v → w.cell? ((⟨pb, 68, none⟩ : Addr).add j) = some v :=
  mid_cells h.om.pr 68 _ fun j v hv => by
    have hj : j < 24 := by
      have := (List.getElem?_eq_some_iff.1 hv).1
      rw [flCells_length, h.good.ok.fds] at this; exact this
    rw [List.getElem?_append_left (by rw [prCells_length h.good.ok]; omega), pr_fds h.good.ok hj]; exact hv
theorem KS.fdc (h : KS w B kb a m p pb z a0 m0 x0 x1 x2 tl) {k : Nat} {f : Fl} (hf : p.fds[k]? = some f) {j : Nat} (hj : j < 3) {v : Value} (hv : (flCells1 f)[j]? = some v) : w.cell? ⟨pb, 68 + k * 3 + j, none⟩ = some v := by
  have hk : k < 8 := by have := (List.getElem?_eq_some_iff.1 hf).1; rw [h.good.ok.fds] at this; exact this
  have h2 := flat_at flCells1 3 p.fds (fun _ _ => rfl) hf hj
  rw [hv] at h2
  refine h.om.cell ?_
  rw [show 68 + k * 3 + j = 68 + (k * 3 + j) by omega, pr_fds h.good.ok (by omega)]
  exact h2
theorem KS.pfree (h : KS w B kb a m p pb z a0 m0 x0 x1 x2 tl) (k : Nat) : w.frozen? ⟨pb, k, none⟩ = false := h.om.pr.free k
/-- a cell of the process is stored -/
theorem KS.set (h : KS w B kb a m p pb z a0 m0 x0 x1 x2 tl) (q : Pr) (k : Nat) (v : Value) (hk : k < 96) (e : (prCells p).set k v = prCells q) (hq : PrOk q) (hp : q.pid = 1) : KS (w.setCell ⟨pb, k, none⟩ v) B kb a { m with procs := [q] } q pb z a0 m0 x0 x1 x2 tl :=
  ⟨h.om.set q k v (by rw [prCells_length h.good.ok]; exact hk) e, by
    have h2 := h.ker.far (p := ⟨pb, k, none⟩) (fun e => h.pbk e.symm) v
    have e3 : mcL a { m with procs := [q] } = mcL a m := by unfold mcL; rw [h.good.one]; rfl
    unfold kcL at *; rw [e3]; exact h2, h.hB, h.good.proc q hq hp⟩
/-- an open file is stored -/
theorem KS.fd (h : KS w B kb a m p pb z a0 m0 x0 x1 x2 tl) (hk : w.grownBy w' (some pb)) (q : Pr) (hw : Whole w' pb 47 (prCells q ++ z).toArray) (hq : PrOk q) (hp : q.pid = 1) : KS w' B kb a { m with procs := [q] } q pb z a0 m0 x0 x1 x2 tl :=
  ⟨h.om.proc hk q hw, by
    have h2 := h.ker.other hk (fun e => h.pbk (by injection e with e; exact e.symm))
    have e3 : mcL a { m with procs := [q] } = mcL a m := by unfold mcL; rw [h.good.one]; rfl
    unfold kcL at *; rw [e3]; exact h2, h.hB, h.good.proc q hq hp⟩
/-- the kernel's machine is another one -/
theorem KS.turn (h : KS w B kb a m p pb z a0 m0 x0 x1 x2 tl) (hk : w.grownBy w' (some kb)) {a' : MA} {m' : Mc} {p' : Pr} {pb' : Nat} {z' : List Value} {tl' : List UInt8} (ho : OM w (fun g => B ≤ g ∧ g ≠ kb) a' m' p' pb' z') (hw : Whole w' kb 60 (kcL a' m' a0 m0 x0 x1 x2 tl').toArray) (hg : Good m' p') : KS w' B kb a' m' p' pb' z' a0 m0 x0 x1 x2 tl' :=
  ⟨ho.other hk (fun e => e.2 rfl), hw, h.hB, hg⟩
end
/-- a list in the blocks from lo on -/
def LO (lo : Nat) (ty : TypeId) (w : World) (X : Option Addr) (xs : List Value) : Prop := Lies w w.heap.size X xs ∧ ∀ ad, X = some ad → lo ≤ ad.block ∧ Typed w ad.block ty
theorem LO.below {lo : Nat} {ty : TypeId} {w w' : World} {X : Option Addr} {xs : List Value} (h : LO lo ty w X xs) (hb : Below w.heap.size w w') : LO lo ty w' X xs := ⟨(Lies.below h.1 hb).wide hb.size, fun ad e => ⟨(h.2 ad e).1, (h.2 ad e).2.keep (hb.block _ (h.2 ad e).2.lt)⟩⟩
theorem LO.one {lo q : Nat} {ty : TypeId} {w w' : World} {X : Option Addr} {xs : List Value} (h : LO lo ty w X xs) (hk : w.grownBy w' (some q)) (hq : q < lo) : LO lo ty w' X xs := ⟨fun k v hv => by
  obtain ⟨ad, e, hb, hc⟩ := h.1 k v hv
  refine ⟨ad, e, Nat.lt_of_lt_of_le hb hk.size, ?_⟩
  rw [← hc]
  unfold World.cell?
  rw [add_block, hk.block ad.block hb (by have := h.2 ad e; intro e2; injection e2 with e2; omega)], fun ad e => ⟨(h.2 ad e).1, (h.2 ad e).2.keep (hk.block _ (h.2 ad e).2.lt (by have := h.2 ad e; intro e2; injection e2 with e2; omega))⟩⟩
theorem LO.set {lo q K : Nat} {ty : TypeId} {w : World} {X : Option Addr} {xs : List Value} {v : Value} (h : LO lo ty w X xs) (hq : q < lo) : LO lo ty (w.setCell ⟨q, K, none⟩ v) X xs := h.one (grown_setK w q K v) hq
theorem LO.wide {lo lo' : Nat} {ty : TypeId} {w : World} {X : Option Addr} {xs : List Value} (h : LO lo ty w X xs) (h1 : lo' ≤ lo) : LO lo' ty w X xs := ⟨h.1, fun ad e => ⟨Nat.le_trans h1 (h.2 ad e).1, (h.2 ad e).2⟩⟩
theorem LO.lx {lo pb : Nat} {ty : TypeId} {w : World} {X : Option Addr} {xs : List Value} (h : LO lo ty w X xs) {ok : Nat → Prop} (h1 : ∀ g, lo ≤ g → ok g) (h2 : ∀ ad, X = some ad → ad.block ≠ pb) : LX w ok pb ty X xs := ⟨h.1, fun ad e => ⟨h1 _ (h.2 ad e).1, h2 ad e, (h.2 ad e).2⟩⟩
/-- the same, owned -/
def LQ (lo : Nat) (w : World) (X : Option Addr) (n c : Nat) (xs : List Value) : Prop := LO lo 73 w X xs ∧ w.ownsRow lo 73 2 (.slice X n c) n xs
theorem LQ.below {lo n c : Nat} {w w' : World} {X : Option Addr} {xs : List Value} (h : LQ lo w X n c xs) (hb : Below w.heap.size w w') : LQ lo w' X n c xs := ⟨h.1.below hb, ownr_below h.2 hb⟩
theorem LQ.one {lo q n c : Nat} {w w' : World} {X : Option Addr} {xs : List Value} (h : LQ lo w X n c xs) (hk : w.grownBy w' (some q)) (hq : q < lo) : LQ lo w' X n c xs := ⟨h.1.one hk hq, own_one h.2 hk hq⟩
theorem LQ.set {lo q K n c : Nat} {w : World} {X : Option Addr} {xs : List Value} {v : Value} (h : LQ lo w X n c xs) (hq : q < lo) : LQ lo (w.setCell ⟨q, K, none⟩ v) X n c xs := h.one (grown_setK w q K v) hq
theorem own_row {w : World} {base : Nat} {e : TypeId} {size n : Nat} {v : Value} {xs : List Value} (h : w.ownsRow base e size v n xs) : ∃ A c, v = .slice A n c ∧ LO base e w A xs ∧ n ≤ c ∧ ∀ ad, A = some ad → ad.block < w.heap.size := by
  rcases h.2 with ⟨rfl, hx⟩ | ⟨g, cap, cur, rfl, hb, hh, hnc, hcur⟩
  · subst hx
    obtain rfl : xs = [] := List.eq_nil_of_length_eq_zero (by have := h.1; omega)
    exact ⟨none, 0, rfl, ⟨Lies.none _ _ _, fun _ h => by cases h⟩, Nat.le_refl _, fun _ h => by cases h⟩
  · exact ⟨_, _, rfl, ⟨fun k u hu => ⟨_, rfl, (Array.getElem?_eq_some_iff.1 hh).1, h.cells (g := g) rfl k u hu⟩, fun ad h => by injection h with h; subst h; exact ⟨hb, _, _, hh⟩⟩, hnc, fun ad h => by injection h with h; subst h; exact (Array.getElem?_eq_some_iff.1 hh).1⟩
theorem own_proc {w : World} {base : Nat} {v : Value} {p : Pr} (h : w.ownsRow base 47 96 v 1 (prCells p)) : ∃ pb c z, v = .slice (some ⟨pb, 0, none⟩) 1 c ∧ base ≤ pb ∧ Whole w pb 47 (prCells p ++ z).toArray ∧ 1 ≤ c := by
  rcases h.2 with ⟨_, hx⟩ | ⟨g, cap, cur, rfl, hb, hh, hnc, hm, hs, hcur⟩
  · cases hx
  · refine ⟨g, cap, cur.toList.drop 96, rfl, hb, ?_, hnc⟩
    have e : prCells p ++ cur.toList.drop 96 = cur.toList := by
      rw [show prCells p = cur.toList.take 96 from hcur.symm]; exact List.take_append_drop _ _
    rw [e, Array.toArray_toList]; exact hh
/-- a machine's lists lie from a block on -/
def MB (B : Nat) (a : MA) : Prop := (∀ ad, a.F = some ad → B ≤ ad.block) ∧ (∀ ad, a.P = some ad → B ≤ ad.block) ∧ (∀ ad, a.Q = some ad → B ≤ ad.block) ∧ (∀ ad, a.L = some ad → B ≤ ad.block) ∧ (∀ ad, a.N = some ad → B ≤ ad.block) ∧ (∀ ad, a.D = some ad → B ≤ ad.block)
theorem MB.mono {B C : Nat} {a : MA} (h : MB B a) (hc : C ≤ B) : MB C a := ⟨fun ad e => Nat.le_trans hc (h.1 ad e), fun ad e => Nat.le_trans hc (h.2.1 ad e), fun ad e => Nat.le_trans hc (h.2.2.1 ad e), fun ad e => Nat.le_trans hc (h.2.2.2.1 ad e), fun ad e => Nat.le_trans hc (h.2.2.2.2.1 ad e), fun ad e => Nat.le_trans hc (h.2.2.2.2.2 ad e)⟩
theorem OM.mb {w : World} {ok : Nat → Prop} {a : MA} {m : Mc} {p : Pr} {pb : Nat} {z : List Value} (h : OM w ok a m p pb z) {B : Nat} (hB : ∀ g, ok g → B ≤ g) : MB B a :=
  ⟨fun ad e => hB _ (h.F.2 ad e).1, fun ad e => by rw [h.aP] at e; injection e with e; subst e; exact hB _ h.okp, fun ad e => hB _ (h.Q.2 ad e).1, fun ad e => hB _ (h.L.2 ad e).1, fun ad e => hB _ (h.N.2 ad e).1, fun ad e => hB _ (h.D.2 ad e).1⟩
/-- a machine's lists behind a write into another block -/
theorem MAt.far {w w' : World} {a : MA} {m : Mc} {q B : Nat} (h : MAt w w.heap.size a m) (hb : MB B a) (hk : w.grownBy w' (some q)) (hq : q < B) : MAt w' w'.heap.size a m := by
  have go : ∀ {A : Option Addr} {xs : List Value}, Lies w w.heap.size A xs → (∀ ad, A = some ad → B ≤ ad.block) → Lies w' w'.heap.size A xs := fun {A xs} h hA k v hv => by
    obtain ⟨ad, e, hb, hc⟩ := h k v hv
    refine ⟨ad, e, Nat.lt_of_lt_of_le hb hk.size, ?_⟩
    rw [← hc]
    unfold World.cell?
    rw [add_block, hk.block ad.block hb (by intro e2; injection e2 with e2; have := hA ad e; omega)]
  exact ⟨go h.F hb.1, go h.P hb.2.1, go h.Q hb.2.2.1, go h.L hb.2.2.2.1, go h.N hb.2.2.2.2.1, go h.D hb.2.2.2.2.2, h.caps⟩
/-- what a function gives that tells a machine of its own -/
def NewM (B : Nat) (w' : World) (a : MA) (m : Mc) (p : Pr) : Prop := ∃ pb z, OM w' (fun g => B ≤ g) a m p pb z
end Go.Proofs.YtdhfblfnejmeiaaGreatDoor
