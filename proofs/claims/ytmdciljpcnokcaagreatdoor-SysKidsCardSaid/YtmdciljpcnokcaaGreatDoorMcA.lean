/-
  A whole machine as plain data, and its cells in memory.
-/
import Derived.Test.YtmdciljpcnokcaaGreatDoorGenA
namespace Go.Proofs.YtmdciljpcnokcaaGreatDoor
open Go.RowKit

/-- a page of a process -/
structure Pg where
  is : Bool
  wr : Bool
  frame : Int
deriving DecidableEq
/-- an open file -/
structure Fl where
  kind : Int
  n : Int
  pos : Int
deriving DecidableEq
/-- a process -/
structure Pr where
  pid : Int
  parent : Int
  state : Int
  regs : List Int
  pc : Int
  space : List Pg
  fds : List Fl
  mask : Bool
  code : Int
  why : Int
  n : Int
deriving DecidableEq
/-- a number, and bytes: a write, a pipe -/
abbrev Nb := Int × List UInt8
/-- a machine -/
structure Mc where
  clock : Int
  quantum : Int
  cur : Int
  left : Int
  frames : List (List UInt8)
  procs : List Pr
  next : Int
  init : List UInt8
  pipes : List Nb
  newPipe : Int
  inp : List UInt8
  fin : Bool
  told : Int
  blocks : List (List UInt8)
  pend : List Nb
  dleft : Int
  dirty : List Nb
def inJ8 (n : Int) : Prop := -9223372036854775808 ≤ n ∧ n ≤ 9223372036854775807
def inU32 (n : Int) : Prop := 0 ≤ n ∧ n ≤ 4294967295
def inU64 (n : Int) : Prop := 0 ≤ n ∧ n ≤ 18446744073709551615

def pgCells1 (p : Pg) : List Value := [.bool p.is, .bool p.wr, .int .i64 p.frame]
def flCells1 (f : Fl) : List Value := [.int .i64 f.kind, .int .i64 f.n, .int .i64 f.pos]
def pgCells (s : List Pg) : List Value := s.flatMap pgCells1
def flCells (s : List Fl) : List Value := s.flatMap flCells1
def nbCells1 (p : Nb) : List Value := [.int .i64 p.1, S p.2]
def nbCells (l : List Nb) : List Value := l.flatMap nbCells1
def rgCells (l : List Int) : List Value := l.map fun n => .int .u32 n
def prCells (p : Pr) : List Value :=
  .int .i64 p.pid :: .int .i64 p.parent :: .int .i64 p.state :: (rgCells p.regs ++ (.int .u32 p.pc :: (pgCells p.space ++ (flCells p.fds ++ [.bool p.mask, .int .u32 p.code, .int .i64 p.why, .int .u64 p.n]))))
def prsCells (l : List Pr) : List Value := l.flatMap prCells
structure PrOk (p : Pr) : Prop where
  regs : p.regs.length = 16
  space : p.space.length = 16
  fds : p.fds.length = 8
  pid : inJ8 p.pid
  parent : inJ8 p.parent
  state : inJ8 p.state
  reg : ∀ r ∈ p.regs, inU32 r
  pc : inU32 p.pc
  page : ∀ g ∈ p.space, inJ8 g.frame
  fd : ∀ f ∈ p.fds, inJ8 f.kind ∧ inJ8 f.n ∧ inJ8 f.pos
  code : inU32 p.code
  why : inJ8 p.why
  n : inU64 p.n

/-- an element of a list of equal rows -/
theorem flat_at {α β : Type} (f : α → List β) (n : Nat) : ∀ (l : List α) (_ : ∀ x ∈ l, (f x).length = n) {k : Nat} {x : α} (_ : l[k]? = some x) {j : Nat} (_ : j < n), (l.flatMap f)[k * n + j]? = (f x)[j]?
  | [], _, _, _, h, _, _ => by simp at h
  | a :: l, hl, 0, x, h, j, hj => by
    obtain rfl : a = x := by simpa using h
    have := hl a (by simp)
    rw [List.flatMap_cons, Nat.zero_mul, Nat.zero_add, List.getElem?_append_left (by omega)]
  | a :: l, hl, k + 1, x, h, j, hj => by
    have ha := hl a (by simp)
    have ih := flat_at f n l (fun y hy => hl y (by simp [hy])) (k := k) (x := x) (by simpa using h) hj
    rw [List.flatMap_cons, List.getElem?_append_right (by rw [ha, Nat.add_mul]; omega), ha, show (k + 1) * n + j - n = k * n + j by rw [Nat.add_mul]; omega]
    exact ih
theorem flat_len {α β : Type} (f : α → List β) (n : Nat) : ∀ (l : List α) (_ : ∀ x ∈ l, (f x).length = n), (l.flatMap f).length = l.length * n
  | [], _ => by simp
  | a :: l, h => by
    rw [List.flatMap_cons, List.length_append, h a (by simp), flat_len f n l (fun y hy => h y (by simp [hy])), List.length_cons, Nat.add_mul]; omega
theorem pgCells_length (s : List Pg) : (pgCells s).length = s.length * 3 := flat_len _ 3 s fun _ _ => rfl
theorem flCells_length (s : List Fl) : (flCells s).length = s.length * 3 := flat_len _ 3 s fun _ _ => rfl
theorem nbCells_length (s : List Nb) : (nbCells s).length = s.length * 2 := flat_len _ 2 s fun _ _ => rfl
theorem prCells_length {p : Pr} (h : PrOk p) : (prCells p).length = 96 := by
  simp [prCells, rgCells, pgCells_length, flCells_length, h.regs, h.space, h.fds]
theorem prsCells_length {l : List Pr} (h : ∀ p ∈ l, PrOk p) : (prsCells l).length = l.length * 96 := flat_len _ 96 l fun p hp => prCells_length (h p hp)
section
variable {p : Pr}
theorem pr_reg (h : PrOk p) {j : Nat} (hj : j < 16) : (prCells p)[3 + j]? = (rgCells p.regs)[j]? := by
  unfold prCells
  rw [show 3 + j = j + 1 + 1 + 1 by omega, List.getElem?_cons_succ, List.getElem?_cons_succ, List.getElem?_cons_succ, List.getElem?_append_left (by simp [rgCells, h.regs, hj])]
theorem pr_pc (h : PrOk p) : (prCells p)[19]? = some (.int .u32 p.pc) := by
  unfold prCells
  rw [List.getElem?_cons_succ, List.getElem?_cons_succ, List.getElem?_cons_succ, List.getElem?_append_right (by simp [rgCells, h.regs])]
  simp [rgCells, h.regs]
theorem pr_space (h : PrOk p) {j : Nat} (hj : j < 48) : (prCells p)[20 + j]? = (pgCells p.space)[j]? := by
  unfold prCells
  rw [show 20 + j = j + 17 + 1 + 1 + 1 by omega, List.getElem?_cons_succ, List.getElem?_cons_succ, List.getElem?_cons_succ, List.getElem?_append_right (by simp [rgCells, h.regs])]
  simp only [rgCells, List.length_map, h.regs]
  rw [show j + 17 - 16 = j + 1 by omega, List.getElem?_cons_succ, List.getElem?_append_left (by rw [pgCells_length, h.space]; omega)]
theorem pr_fds (h : PrOk p) {j : Nat} (hj : j < 24) : (prCells p)[68 + j]? = (flCells p.fds)[j]? := by
  unfold prCells
  rw [show 68 + j = j + 65 + 1 + 1 + 1 by omega, List.getElem?_cons_succ, List.getElem?_cons_succ, List.getElem?_cons_succ, List.getElem?_append_right (by simp [rgCells, h.regs])]
  simp only [rgCells, List.length_map, h.regs]
  rw [show j + 65 - 16 = j + 48 + 1 by omega, List.getElem?_cons_succ, List.getElem?_append_right (by rw [pgCells_length, h.space]; omega), pgCells_length, h.space, show j + 48 - 16 * 3 = j by omega,
    List.getElem?_append_left (by rw [flCells_length, h.fds]; omega)]
theorem pr_last (h : PrOk p) (j : Nat) : (prCells p)[92 + j]? = ([.bool p.mask, .int .u32 p.code, .int .i64 p.why, .int .u64 p.n] : List Value)[j]? := by
  unfold prCells
  rw [show 92 + j = j + 89 + 1 + 1 + 1 by omega, List.getElem?_cons_succ, List.getElem?_cons_succ, List.getElem?_cons_succ, List.getElem?_append_right (by simp [rgCells, h.regs])]
  simp only [rgCells, List.length_map, h.regs]
  rw [show j + 89 - 16 = j + 72 + 1 by omega, List.getElem?_cons_succ, List.getElem?_append_right (by rw [pgCells_length, h.space]; omega), pgCells_length, h.space, show j + 72 - 16 * 3 = j + 24 by omega,
    List.getElem?_append_right (by rw [flCells_length, h.fds]; omega), flCells_length, h.fds, show j + 24 - 8 * 3 = j by omega]
theorem prCells_one : ∀ v ∈ prCells p, v.oneCell' = true := by
  intro v hv
  simp only [prCells, rgCells, pgCells, flCells, List.mem_cons, List.mem_append, List.mem_map, List.mem_flatMap, List.not_mem_nil, or_false, pgCells1, flCells1] at hv
  rcases hv with rfl | rfl | rfl | ⟨_, _, rfl⟩ | rfl | ⟨_, _, rfl | rfl | rfl⟩ | ⟨_, _, rfl | rfl | rfl⟩ | rfl | rfl | rfl | rfl <;> rfl
end
theorem nbCells_one (l : List Nb) : ∀ v ∈ nbCells l, v.oneCell' = true := by
  intro v hv
  simp only [nbCells, List.mem_flatMap, nbCells1, List.mem_cons, List.not_mem_nil, or_false] at hv
  rcases hv with ⟨_, _, rfl | rfl⟩ <;> rfl
theorem prsCells_one (l : List Pr) : ∀ v ∈ prsCells l, v.oneCell' = true := by
  intro v hv
  obtain ⟨p, _, h⟩ := List.mem_flatMap.1 hv
  exact prCells_one v h
/-- where a machine's lists lie -/
structure MA where
  F : Option Addr
  P : Option Addr
  Q : Option Addr
  L : Option Addr
  N : Option Addr
  D : Option Addr
  cF : Nat
  cP : Nat
  cQ : Nat
  cL : Nat
  cN : Nat
  cD : Nat
def mcL (a : MA) (m : Mc) : List Value :=
  [.int .u64 m.clock, .int .i64 m.quantum, .int .i64 m.cur, .int .i64 m.left, .slice a.F m.frames.length a.cF, .slice a.P m.procs.length a.cP, .int .i64 m.next, S m.init, .slice a.Q m.pipes.length a.cQ,
   .int .i64 m.newPipe, S m.inp, .bool m.fin, .int .u64 m.told, .slice a.L m.blocks.length a.cL, .slice a.N m.pend.length a.cN, .int .i64 m.dleft, .slice a.D m.dirty.length a.cD]
/-- a drive's cells -/
def dvL (L : Option Addr) (n cL : Nat) (N : Option Addr) (k cN : Nat) (lf : Int) : List Value := [.slice L n cL, .slice N k cN, .int .i64 lf]
structure MAt (w : World) (B : Nat) (a : MA) (m : Mc) : Prop where
  F : Strs w B a.F m.frames
  P : Lies w B a.P (prsCells m.procs)
  Q : Lies w B a.Q (nbCells m.pipes)
  L : Strs w B a.L m.blocks
  N : Lies w B a.N (nbCells m.pend)
  D : Lies w B a.D (nbCells m.dirty)
  caps : m.frames.length ≤ a.cF ∧ m.procs.length ≤ a.cP ∧ m.pipes.length ≤ a.cQ ∧ m.blocks.length ≤ a.cL ∧ m.pend.length ≤ a.cN ∧ m.dirty.length ≤ a.cD
theorem MAt.below {w w' : World} {B : Nat} {a : MA} {m : Mc} (h : MAt w B a m) (hb : Below B w w') : MAt w' B a m := ⟨Lies.below h.F hb, h.P.below hb, h.Q.below hb, Lies.below h.L hb, h.N.below hb, h.D.below hb, h.caps⟩
theorem MAt.wide {w : World} {B B' : Nat} {a : MA} {m : Mc} (h : MAt w B a m) (hb : B ≤ B') : MAt w B' a m := ⟨Lies.wide h.F hb, h.P.wide hb, h.Q.wide hb, Lies.wide h.L hb, h.N.wide hb, h.D.wide hb, h.caps⟩
/-- numbers that a machine can have -/
structure McOk (m : Mc) : Prop where
  clock : inU64 m.clock
  quantum : inJ8 m.quantum
  cur : inJ8 m.cur
  left : inJ8 m.left
  next : inJ8 m.next
  newPipe : inJ8 m.newPipe
  told : inU64 m.told
  dleft : inJ8 m.dleft
  procs : ∀ p ∈ m.procs, PrOk p
  pipes : ∀ p ∈ m.pipes, inJ8 p.1
  pend : ∀ p ∈ m.pend, inJ8 p.1
  dirty : ∀ p ∈ m.dirty, inJ8 p.1
  sizes : m.frames.length ≤ 274877906944 ∧ m.procs.length ≤ 274877906944 ∧ m.pipes.length ≤ 9223372036854775807 ∧ m.blocks.length ≤ 274877906944 ∧ m.pend.length ≤ 274877906944 ∧ m.dirty.length ≤ 274877906944
theorem mcL_length (a : MA) (m : Mc) : (mcL a m).length = 17 := rfl
theorem mcL_one (a : MA) (m : Mc) : ∀ v ∈ mcL a m, v.oneCell' = true := by
  intro v hv
  simp only [mcL, List.mem_cons, List.not_mem_nil, or_false] at hv
  rcases hv with rfl | rfl | rfl | rfl | rfl | rfl | rfl | rfl | rfl | rfl | rfl | rfl | rfl | rfl | rfl | rfl | rfl <;> rfl
/-- the cells of an element of a slice -/
theorem Lies.row {α : Type} {f : α → List Value} {n : Nat} {w : World} {B : Nat} {A : Option Addr} {l : List α} (h : Lies w B A (l.flatMap f)) (hl : ∀ x ∈ l, (f x).length = n) (hn : 0 < n) {k : Nat} {x : α} (hk : l[k]? = some x) :
    ∃ ad, A = some ad ∧ ad.block < B ∧ ∀ j v, (f x)[j]? = some v → w.cell? ((ad.add (k * n)).add j) = some v := by
  have hx : (f x).length = n := hl x (List.mem_of_getElem? hk)
  have h0 := flat_at f n l hl hk (j := 0) hn
  obtain ⟨v0, hv0⟩ : ∃ v, (f x)[0]? = some v := ⟨(f x)[0]'(by omega), List.getElem?_eq_getElem _⟩
  obtain ⟨ad, rfl, hb, _⟩ := h _ _ (h0.trans hv0)
  refine ⟨ad, rfl, hb, fun j v hv => ?_⟩
  have hj : j < n := by rw [← hx]; exact (List.getElem?_eq_some_iff.1 hv).1
  obtain ⟨ad', e, _, hc⟩ := h _ _ ((flat_at f n l hl hk hj).trans hv)
  obtain rfl : ad = ad' := by injection e
  rw [show (ad.add (k * n)).add j = ad.add (k * n + j) by unfold Addr.add; by_cases h1 : k * n = 0 <;> by_cases h2 : j = 0 <;> simp [h1, h2, Nat.add_assoc]]
  exact hc
end Go.Proofs.YtmdciljpcnokcaaGreatDoor
/-
  Laws over any program: a struct that is made and filled at once; a struct out of an array by value.
-/
namespace Go.Proofs.YtmdciljpcnokcaaGreatDoor
open Go.RowKit

section
variable {P : Program}
theorem setRow_new (w : World) (t : TypeId) (Z X : Array Value) : (w.alloc (.cells Z t)).setRow w.heap.size X = w.alloc (.cells X t) := by
  unfold World.setRow World.alloc
  congr 1
  simp only
  apply Array.ext
  · simp
  · intro i h1 h2
    rw [Array.getElem_modify]
    by_cases h : w.heap.size = i
    · subst h; simp
    · rw [if_neg h, Array.getElem_push, Array.getElem_push]
      have : i < w.heap.size := by simp at h1; omega
      simp [this]
theorem run_alloc_z (w : World) (ty : TypeId) (z : Value) (n : Nat) (hi : (P.info? ty).map (fun i => (i.zero, i.size)) = some (some z, n)) : (Instr.alloc ty true (.tuple #[])).run P w = .ok (.pointer (some ⟨w.heap.size, 0, none⟩)) (w.alloc (.cells z.cells ty)) := by
  cases hq : P.info? ty with
  | none => simp [hq] at hi
  | some i =>
    simp [hq] at hi
    simp [Instr.alloc, newVar, newRow, zeroValue, typeInfo, hq, hi.1, Sem.run_bind]
/-- 'x := y' of a struct: its cell is made and filled -/
theorem wpList_fresh {ops : Array Oper} {rest : List Oper} {o1 o2 : Oper} {a : Act} {w : World} {Q : Exit → Act → World → Prop} (hg1 : o1.guard = none) (hg2 : o2.guard = none) (ty : TypeId) (d : Tmp) (y : Operand)
    (h1 : o1.op = .alloc ty) (hd : o1.dst = some d) (h2 : o2.op = .store ty (.tmp d) y) (hd2 : o2.dst = none) (cs : List Value)
    (hx : (a.put (some d) (.pointer (some ⟨w.heap.size, 0, none⟩))).eval (.tmp d) = .pointer (some ⟨w.heap.size, 0, none⟩)) (hy : (a.put (some d) (.pointer (some ⟨w.heap.size, 0, none⟩))).eval y = .agg cs.toArray)
    (z : Value) (hi : (P.info? ty).map (fun i => (i.zero, i.size)) = some (some z, cs.length)) (hz : z.cells.size = cs.length) (hone : ∀ v ∈ cs, v.oneCell' = true)
    (h : wpList P ops Q rest (a.put (some d) (.pointer (some ⟨w.heap.size, 0, none⟩))) (w.alloc (.cells cs.toArray ty))) : wpList P ops Q (o1 :: o2 :: rest) a w := by
  have hi' : (P.info? ty).map (·.size) = some cs.length := by
    cases hq : P.info? ty with
    | none => simp [hq] at hi
    | some i => simp [hq] at hi ⊢; exact hi.2
  refine wpList_plain hg1 fun K hK => ?_
  unfold Oper.wp execOp
  simp only [h1, Sem.run_bind, run_alloc_z w ty z cs.length hi, Sem.run_pure, Result.andThen_ok]
  refine hK _ _ ?_
  rw [hd]
  refine wpList_plain hg2 fun K hK => ?_
  have hW : Whole (w.alloc (.cells z.cells ty)) w.heap.size ty z.cells.toList.toArray := by simpa using Whole.made w ty z.cells
  have hrun := run_storeVar_at (w.alloc (.cells z.cells ty)) ty w.heap.size 0 cs hi' z.cells.toList ty hW (by simp [hz]) hone
  rw [List.take_zero, List.nil_append, Nat.zero_add, List.drop_of_length_le (by simp [hz]), List.append_nil, setRow_new] at hrun
  have hk := hK _ _ h
  unfold Oper.wp execOp
  simp only [h2, hx, hy, Instr.storeAt, Instr.sureAddr, Sem.run_bind, Sem.run_pure, Result.andThen_ok, hrun]
  simpa [Oper.upon, Act.put, hd2] using hk
/-- a whole struct stored over a block of its own size -/
theorem wpList_store_all {ops : Array Oper} {rest : List Oper} {o : Oper} {a : Act} {w : World} {Q : Exit → Act → World → Prop} (hgd : o.guard = none) (ty : TypeId) (x y : Operand) (ho : o.op = .store ty x y) (hdst : o.dst = none)
    (g : Nat) (hx : a.eval x = .pointer (some ⟨g, 0, none⟩)) (cs : List Value) (hy : a.eval y = .agg cs.toArray) (hi : (P.info? ty).map (·.size) = some cs.length)
    (cur : List Value) (t : TypeId) (hg : Whole w g t cur.toArray) (hfit : cs.length = cur.length) (h1 : ∀ v ∈ cs, v.oneCell' = true)
    (h : ∀ w', Hid (Whole w' g t cs.toArray) → Hid (w.grownBy w' (some g)) → wpList P ops Q rest a w') : wpList P ops Q (o :: rest) a w :=
  wpList_store_at hgd ty x y ho hdst g 0 hx cs hy hi cur t hg (by omega) h1 fun w' H1 H2 => h w' (by
    have := H1.out
    rw [List.take_zero, List.nil_append, Nat.zero_add, hfit, List.drop_length, List.append_nil] at this
    exact Lib.hid this) H2
/-- 'a[i]' of an array by value, its elements structs -/
theorem run_index_structs (w : World) (t e : TypeId) (fs : _) (n m : Nat) (cs : Array Value) (k : IntKind) (i : Nat) (h : P.underlying t = some (.array n e)) (he : P.underlying e = some (.struct fs)) (hs : (P.info? e).map (·.size) = some m)
    (hi : i < n) : (Instr.index t (.agg cs) (.int k (i : Int))).run P w = .ok (.agg (cs.extract (i * m) (i * m + m))) w := by
  have hin : (0 : Int) ≤ (i : Int) ∧ (i : Int) < (n : Int) := by omega
  cases hq : P.info? e with
  | none => simp [hq] at hs
  | some j =>
    have hj : j.size = m := by simpa [hq] using hs
    have hagg : (isAgg e).run P w = .ok true w := by
      unfold isAgg
      rw [Sem.run_bind, run_underlying he w]
      simp
    simp [Instr.index, run_underlying h, asIntOf, hin, sizeOf, typeInfo, hq, hj, part, hagg, go_sem]
    intro hh; omega
theorem wpList_index_structs {ops : Array Oper} {rest : List Oper} {o : Oper} {a : Act} {w : World} {Q : Exit → Act → World → Prop} (hgd : o.guard = none) (t : TypeId) (x y : Operand) (ho : o.op = .index t x y)
    (e : TypeId) (fs : _) (n m : Nat) (cs : List Value) (k : IntKind) (i : Nat) (hx : a.eval x = .agg cs.toArray) (hy : a.eval y = .int k (i : Int)) (h : P.underlying t = some (.array n e)) (he : P.underlying e = some (.struct fs)) (hs : (P.info? e).map (·.size) = some m)
    (hi : i < n) (r : List Value) (hr : (cs.drop (i * m)).take m = r) (hq : wpList P ops Q rest (a.put o.dst (.agg r.toArray)) w) : wpList P ops Q (o :: rest) a w :=
  wpList_plain hgd fun _ hK => by
    have hrun := run_index_structs (P := P) w t e fs n m cs.toArray k i h he hs hi
    have e1 : cs.toArray.extract (i * m) (i * m + m) = r.toArray := by
      apply Array.toList_inj.1
      rw [Array.toList_extract, List.extract_eq_take_drop]
      rw [show i * m + m - i * m = m by omega]
      exact hr
    rw [e1] at hrun
    unfold Oper.wp execOp
    simp only [ho, hx, hy, Sem.run_bind, Sem.run_pure, Result.andThen_ok, hrun]
    exact hK _ _ hq
end
theorem flat_row {α β : Type} (f : α → List β) (n : Nat) : ∀ (l : List α) (_ : ∀ x ∈ l, (f x).length = n) {k : Nat} {x : α} (_ : l[k]? = some x), ((l.flatMap f).drop (k * n)).take n = f x
  | [], _, _, _, h => by simp at h
  | a :: l, hl, 0, x, h => by
    obtain rfl : a = x := by simpa using h
    have := hl a (by simp)
    rw [List.flatMap_cons, Nat.zero_mul, List.drop_zero, List.take_append_of_le_length (by omega), List.take_of_length_le (by omega)]
  | a :: l, hl, k + 1, x, h => by
    have ha := hl a (by simp)
    have ih := flat_row f n l (fun y hy => hl y (by simp [hy])) (k := k) (x := x) (by simpa using h)
    rw [List.flatMap_cons, List.drop_append, ha, show (k + 1) * n - n = k * n by rw [Nat.add_mul]; omega, List.drop_of_length_le (by rw [ha, Nat.add_mul]; omega), List.nil_append]
    exact ih
def zeroPr : Pr := ⟨0, 0, 0, [0, 0, 0, 0, 0, 0, 0, 0, 0, 0, 0, 0, 0, 0, 0, 0], 0, List.replicate 16 ⟨false, false, 0⟩, List.replicate 8 ⟨0, 0, 0⟩, false, 0, 0, 0⟩
theorem Tryz.infoPr : (Tryz.prog.info? 50).map (fun i => (i.zero, i.size)) = some (some (.agg (prCells zeroPr).toArray), 96) := by kernel_rfl
theorem Tryz.sizePr : (Tryz.prog.info? 50).map (·.size) = some 96 := by kernel_rfl
theorem Tryz.infoPg : (Tryz.prog.info? 43).map (fun i => (i.zero, i.size)) = some (some (.agg #[.bool false, .bool false, .int .i64 0]), 3) := by kernel_rfl
theorem Tryz.infoPi : (Tryz.prog.info? 104).map (fun i => (i.zero, i.size)) = some (some (.agg #[.int .i64 0, .string ⟨#[]⟩]), 2) := by kernel_rfl
theorem Tryz.infoWr : (Tryz.prog.info? 108).map (fun i => (i.zero, i.size)) = some (some (.agg #[.int .i64 0, .string ⟨#[]⟩]), 2) := by kernel_rfl
theorem nb_one (p : Nb) : ∀ v ∈ nbCells1 p, v.oneCell' = true := by
  intro v hv
  simp only [nbCells1, List.mem_cons, List.not_mem_nil, or_false] at hv
  rcases hv with rfl | rfl <;> rfl
theorem pg_one (p : Pg) : ∀ v ∈ pgCells1 p, v.oneCell' = true := by
  intro v hv
  simp only [pgCells1, List.mem_cons, List.not_mem_nil, or_false] at hv
  rcases hv with rfl | rfl | rfl <;> rfl
theorem fl_one (p : Fl) : ∀ v ∈ flCells1 p, v.oneCell' = true := by
  intro v hv
  simp only [flCells1, List.mem_cons, List.not_mem_nil, or_false] at hv
  rcases hv with rfl | rfl | rfl <;> rfl
theorem Tryz.infoStr' : (Tryz.prog.info? 9).map (fun i => (i.zero, i.size, i.bytes)) = some (some (.string ⟨#[]⟩), 1, 16) := by kernel_rfl
/-- a row of texts of the call's own -/
abbrev OwnS (w : World) (base : Nat) (v : Value) (ls : List (List UInt8)) : Prop := w.ownsRow base 9 1 v ls.length (ls.map S)
theorem Tryz.sizeDv : (Tryz.prog.info? 29).map (·.size) = some 3 := by kernel_rfl
theorem Tryz.infoGeo : (Tryz.prog.info? 117).map (fun i => (i.zero, i.size)) = some (some (.agg #[.int .i64 0, .int .i64 0, .int .i64 0, .int .i64 0, .int .i64 0, .int .i64 0]), 6) := by kernel_rfl
theorem Tryz.sizeGeo : (Tryz.prog.info? 117).map (·.size) = some 6 := by kernel_rfl
theorem ints_one (l : List Int) : ∀ v ∈ l.map (Value.int .i64), v.oneCell' = true := by
  intro v hv
  obtain ⟨b, _, rfl⟩ := List.mem_map.1 hv
  rfl
theorem Tryz.sizePg : (Tryz.prog.info? 43).map (·.size) = some 3 := by kernel_rfl
theorem Tryz.infoFl : (Tryz.prog.info? 47).map (fun i => (i.zero, i.size)) = some (some (.agg #[.int .i64 0, .int .i64 0, .int .i64 0]), 3) := by kernel_rfl
theorem Tryz.sizeFl : (Tryz.prog.info? 47).map (·.size) = some 3 := by kernel_rfl
theorem Tryz.sizeSpace : (Tryz.prog.info? 45).map (·.size) = some 48 := by kernel_rfl
theorem Tryz.sizeFds : (Tryz.prog.info? 48).map (·.size) = some 24 := by kernel_rfl
theorem Tryz.sizeMc : (Tryz.prog.info? 31).map (·.size) = some 17 := by kernel_rfl
end Go.Proofs.YtmdciljpcnokcaaGreatDoor
/-
  A machine's numbers, with lists as long as any.
-/
namespace Go.Proofs.YtmdciljpcnokcaaGreatDoor
open Go.RowKit

/-- numbers that a machine can have; its lists as long as any -/
structure McOk' (m : Mc) : Prop where
  clock : inU64 m.clock
  quantum : inJ8 m.quantum
  cur : inJ8 m.cur
  left : inJ8 m.left
  next : inJ8 m.next
  newPipe : inJ8 m.newPipe
  told : inU64 m.told
  dleft : inJ8 m.dleft
  procs : ∀ p ∈ m.procs, PrOk p
  pipes : ∀ p ∈ m.pipes, inJ8 p.1
  pend : ∀ p ∈ m.pend, inJ8 p.1
  dirty : ∀ p ∈ m.dirty, inJ8 p.1
  sizes : m.frames.length ≤ 9223372036854775807 ∧ m.procs.length ≤ 9223372036854775807 ∧ m.pipes.length ≤ 9223372036854775807 ∧ m.blocks.length ≤ 9223372036854775807 ∧ m.pend.length ≤ 9223372036854775807 ∧ m.dirty.length ≤ 9223372036854775807
theorem McOk'.small {m : Mc} (h : McOk' m) (h1 : m.frames.length ≤ 274877906944) (h2 : m.procs.length ≤ 274877906944) (h3 : m.blocks.length ≤ 274877906944) (h4 : m.pend.length ≤ 274877906944) (h5 : m.dirty.length ≤ 274877906944) : McOk m :=
  ⟨h.clock, h.quantum, h.cur, h.left, h.next, h.newPipe, h.told, h.dleft, h.procs, h.pipes, h.pend, h.dirty, h1, h2, h.sizes.2.2.1, h3, h4, h5⟩
end Go.Proofs.YtmdciljpcnokcaaGreatDoor
