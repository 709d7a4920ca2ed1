/-
  Walks: hibernacleref32.Large, SameMachine. (Printed by gen_apa.py.)
-/
import Derived.Test.YtmmfcjkabpffeaaGreatDoorGreatZ
import Derived.Test.YtmmfcjkabpffeaaGreatDoorRestF
import Derived.Test.YtmmfcjkabpffeaaGreatDoorRestJ
import Derived.Test.YtmmfcjkabpffeaaGreatDoorMcA
import Derived.DeepKeys
namespace Go.Proofs.YtmmfcjkabpffeaaGreatDoor
open Go.RowKit

/-- a machine that is gone through -/
structure LargeOk (m : Mc) : Prop where
  procs : m.procs.length ≤ 8
  pend : m.pend.length ≤ 60
  dirty : m.dirty.length ≤ 32
  pipes : m.pipes.length ≤ 8
  inp : m.inp.length ≤ 300
  init : m.init.length ≤ 300
  small : Small32 m.frames m.blocks []
theorem LargeOk.ok {m : Mc} (h : LargeOk m) (hm : McOk' m) : McOk m := by
  obtain ⟨h1, h2, _⟩ := h.small
  have := h.procs; have := h.pend; have := h.dirty
  exact hm.small (by omega) (by omega) (by omega) (by omega) (by omega)
theorem list16' {α : Type} : ∀ l : List α, l.length = 16 → ∃ x0 x1 x2 x3 x4 x5 x6 x7 x8 x9 x10 x11 x12 x13 x14 x15, l = [x0, x1, x2, x3, x4, x5, x6, x7, x8, x9, x10, x11, x12, x13, x14, x15]
  | [x0, x1, x2, x3, x4, x5, x6, x7, x8, x9, x10, x11, x12, x13, x14, x15], _ => ⟨x0, x1, x2, x3, x4, x5, x6, x7, x8, x9, x10, x11, x12, x13, x14, x15, rfl⟩
theorem list8' {α : Type} : ∀ l : List α, l.length = 8 → ∃ x0 x1 x2 x3 x4 x5 x6 x7, l = [x0, x1, x2, x3, x4, x5, x6, x7]
  | [x0, x1, x2, x3, x4, x5, x6, x7], _ => ⟨x0, x1, x2, x3, x4, x5, x6, x7, rfl⟩
/-- cells that a key's type may have -/
def KOk (d : Nat) (t : TypeId) (cs : List Value) : Prop := (Tryz.prog.keyLits d t cs).isSome = true
def KFs (d : Nat) (cs : List Value) : List Field → Prop
  | [] => True
  | f :: r => KOk d f.type ((cs.drop f.offset).take (Tryz.prog.cellsOf f.type)) ∧ KFs d cs r
theorem mapM_some {α β : Type} (f : α → Option β) : ∀ l : List α, (∀ x ∈ l, (f x).isSome = true) → (l.mapM f).isSome = true
  | [], _ => rfl
  | a :: l, h => by
    obtain ⟨b, hb⟩ := Option.isSome_iff_exists.1 (h a (by simp))
    obtain ⟨bs, hbs⟩ := Option.isSome_iff_exists.1 (mapM_some f l fun x hx => h x (by simp [hx]))
    rw [List.mapM_cons, hb, hbs]; rfl
theorem kfs_all {d : Nat} {cs : List Value} : ∀ {l : List Field}, KFs d cs l → ∀ f ∈ l, KOk d f.type ((cs.drop f.offset).take (Tryz.prog.cellsOf f.type))
  | [], _, f, hf => by simp at hf
  | g :: l, h, f, hf => (List.mem_cons.1 hf).elim (fun e => e ▸ h.1) (kfs_all h.2 f)
theorem k_struct {d : Nat} {t : TypeId} {fs : Array Field} {cs : List Value} (hu : Tryz.prog.underlying t = some (.struct fs)) (hl : cs.length = Tryz.prog.cellsOf t) (hn : (fs.all fun f => f.name != "_") = true) (h : KFs d cs fs.toList) : KOk (d + 1) t cs := by
  unfold KOk Program.keyLits
  simp only [hu]
  rw [if_pos ⟨hl, hn⟩, Option.isSome_map]
  exact mapM_some _ _ fun f hf => kfs_all h f hf
theorem k_array {d n : Nat} {t e : TypeId} {cs : List Value} (hu : Tryz.prog.underlying t = some (.array n e)) (hl : cs.length = Tryz.prog.cellsOf t) (h : ∀ i, i < n → KOk d e ((cs.drop (i * Tryz.prog.cellsOf e)).take (Tryz.prog.cellsOf e))) : KOk (d + 1) t cs := by
  unfold KOk Program.keyLits
  simp only [hu]
  rw [if_pos hl, Option.isSome_map]
  exact mapM_some _ _ fun i hi => h i (List.mem_range.1 hi)
theorem k_int {d : Nat} {t : TypeId} {k : IntKind} {n : Int} (hu : Tryz.prog.underlying t = some (.int k)) (h : (Lit.int k n).wf = true) : KOk (d + 1) t [.int k n] := by
  unfold KOk
  simp [Program.keyLits, hu, h]
theorem k_bool {d : Nat} {t : TypeId} {b : Bool} (hu : Tryz.prog.underlying t = some .bool) : KOk (d + 1) t [.bool b] := by
  unfold KOk Program.keyLits
  simp only [hu]
  rfl
theorem wf_u32 {n : Int} (h : inU32 n) : (Lit.int .u32 n).wf = true := by
  simp only [Lit.wf, Bool.and_eq_true, decide_eq_true_eq]
  exact h
theorem wf_u64 {n : Int} (h : inU64 n) : (Lit.int .u64 n).wf = true := by
  simp only [Lit.wf, Bool.and_eq_true, decide_eq_true_eq]
  exact h
theorem wf_j8 {n : Int} (h : inJ8 n) : (Lit.int .i64 n).wf = true := by
  simp only [Lit.wf, Bool.and_eq_true, decide_eq_true_eq]
  exact h
theorem flat_chunk {α : Type} (f : α → List Value) (k : Nat) : ∀ (l : List α), (∀ x ∈ l, (f x).length = k) → ∀ i (hi : i < l.length), ((l.flatMap f).drop (i * k)).take k = f l[i]
  | [], _, i, hi => by simp at hi
  | a :: l, h, 0, _ => by
    have := h a (by simp)
    rw [Nat.zero_mul, List.drop_zero, List.flatMap_cons, List.take_append_of_le_length (by omega), List.take_of_length_le (by omega)]; rfl
  | a :: l, h, i + 1, hi => by
    have ha := h a (by simp)
    have ih := flat_chunk f k l (fun x hx => h x (by simp [hx])) i (by simpa using hi)
    rw [List.flatMap_cons, show (i + 1) * k = k + i * k by rw [Nat.add_mul]; omega, ← List.drop_drop]
    rw [show (f a ++ l.flatMap f).drop k = l.flatMap f by rw [← ha]; simp]
    exact ih
theorem k_pg (g : Pg) (h : inJ8 g.frame) : KOk 6 60 (pgCells1 g) := by
  have k0 : KOk 5 4 (((pgCells1 g).drop 0).take (Tryz.prog.cellsOf 4)) := by
    rw [show Tryz.prog.cellsOf 4 = 1 by kernel_rfl]
    exact (show KOk 5 4 ([.bool g.is]) from k_bool Tryz.underlying4)
  have k1 : KOk 5 4 (((pgCells1 g).drop 1).take (Tryz.prog.cellsOf 4)) := by
    rw [show Tryz.prog.cellsOf 4 = 1 by kernel_rfl]
    exact (show KOk 5 4 ([.bool g.wr]) from k_bool Tryz.underlying4)
  have k2 : KOk 5 3 (((pgCells1 g).drop 2).take (Tryz.prog.cellsOf 3)) := by
    rw [show Tryz.prog.cellsOf 3 = 1 by kernel_rfl]
    exact (show KOk 5 3 ([.int .i64 g.frame]) from k_int Tryz.underlying3 (wf_j8 h))
  exact k_struct Tryz.underlying60 (by kernel_rfl) (by kernel_rfl) ⟨k0, k1, k2, trivial⟩
theorem k_fl (g : Fl) (h : inJ8 g.kind ∧ inJ8 g.n ∧ inJ8 g.pos) : KOk 6 64 (flCells1 g) := by
  have k0 : KOk 5 3 (((flCells1 g).drop 0).take (Tryz.prog.cellsOf 3)) := by
    rw [show Tryz.prog.cellsOf 3 = 1 by kernel_rfl]
    exact (show KOk 5 3 ([.int .i64 g.kind]) from k_int Tryz.underlying3 (wf_j8 h.1))
  have k1 : KOk 5 3 (((flCells1 g).drop 1).take (Tryz.prog.cellsOf 3)) := by
    rw [show Tryz.prog.cellsOf 3 = 1 by kernel_rfl]
    exact (show KOk 5 3 ([.int .i64 g.n]) from k_int Tryz.underlying3 (wf_j8 h.2.1))
  have k2 : KOk 5 3 (((flCells1 g).drop 2).take (Tryz.prog.cellsOf 3)) := by
    rw [show Tryz.prog.cellsOf 3 = 1 by kernel_rfl]
    exact (show KOk 5 3 ([.int .i64 g.pos]) from k_int Tryz.underlying3 (wf_j8 h.2.2))
  exact k_struct Tryz.underlying64 (by kernel_rfl) (by kernel_rfl) ⟨k0, k1, k2, trivial⟩
theorem k_regs (l : List Int) (hl : l.length = 16) (h : ∀ r ∈ l, inU32 r) : KOk 6 56 (rgCells l) := by
  refine k_array Tryz.underlying56 (by rw [show Tryz.prog.cellsOf 56 = 16 by kernel_rfl]; simp [rgCells, hl]) fun i hi => ?_
  rw [show Tryz.prog.cellsOf 55 = 1 by kernel_rfl]
  have e := flat_chunk (fun n : Int => [Value.int .u32 n]) 1 l (fun _ _ => rfl) i (by omega)
  rw [← List.map_eq_flatMap] at e
  change ((rgCells l).drop (i * 1)).take 1 = _ at e
  rw [e]
  exact (fun {n} (q : inU32 n) => (k_int Tryz.underlying55 (wf_u32 q) : KOk 5 55 [.int .u32 n])) (h _ (List.getElem_mem _))
theorem k_space (l : List Pg) (hl : l.length = 16) (h : ∀ g ∈ l, inJ8 g.frame) : KOk 7 62 (pgCells l) := by
  refine k_array Tryz.underlying62 (by rw [show Tryz.prog.cellsOf 62 = 48 by kernel_rfl]; simp [pgCells_length, hl]) fun i hi => ?_
  rw [show Tryz.prog.cellsOf 60 = 3 by kernel_rfl]
  have e := flat_chunk pgCells1 3 l (fun _ _ => rfl) i (by omega)
  skip
  change ((pgCells l).drop (i * 3)).take 3 = _ at e
  rw [e]
  exact k_pg _ (h _ (List.getElem_mem _))
theorem k_fds (l : List Fl) (hl : l.length = 8) (h : ∀ g ∈ l, inJ8 g.kind ∧ inJ8 g.n ∧ inJ8 g.pos) : KOk 7 65 (flCells l) := by
  refine k_array Tryz.underlying65 (by rw [show Tryz.prog.cellsOf 65 = 24 by kernel_rfl]; simp [flCells_length, hl]) fun i hi => ?_
  rw [show Tryz.prog.cellsOf 64 = 3 by kernel_rfl]
  have e := flat_chunk flCells1 3 l (fun _ _ => rfl) i (by omega)
  skip
  change ((flCells l).drop (i * 3)).take 3 = _ at e
  rw [e]
  exact k_fl _ (h _ (List.getElem_mem _))
set_option maxRecDepth 100000 in
theorem k_cpu (l : List Int) (pc : Int) (hl : l.length = 16) (h : ∀ r ∈ l, inU32 r) (hp : inU32 pc) : KOk 7 58 (rgCells l ++ [Value.int .u32 pc]) := by
  have hg : (rgCells l).length = 16 := by simp [rgCells, hl]
  have k0 : KOk 6 56 (((rgCells l ++ [Value.int .u32 pc]).drop 0).take (Tryz.prog.cellsOf 56)) := by
    rw [show Tryz.prog.cellsOf 56 = 16 by kernel_rfl, List.drop_zero, List.take_append_of_le_length (by omega), List.take_of_length_le (by omega)]
    exact (show KOk 6 56 (rgCells l) from k_regs l hl h)
  have k1 : KOk 6 55 (((rgCells l ++ [Value.int .u32 pc]).drop 16).take (Tryz.prog.cellsOf 55)) := by
    rw [show Tryz.prog.cellsOf 55 = 1 by kernel_rfl, List.drop_append_of_le_length (by omega), List.drop_of_length_le (by omega), List.nil_append]
    exact (show KOk 6 55 ([Value.int .u32 pc]) from k_int Tryz.underlying55 (wf_u32 hp))
  exact k_struct Tryz.underlying58 (by rw [show Tryz.prog.cellsOf 58 = 17 by kernel_rfl]; simp [hg]) (by kernel_rfl) ⟨k0, k1, trivial⟩
set_option maxRecDepth 100000 in
set_option maxHeartbeats 4000000 in
theorem pr_keys {p : Pr} (hp : PrOk p) : KOk 8 67 (prCells p) ∧ (Value.agg (prCells p).toArray).formed Tryz.prog 67 = true := by
  obtain ⟨pid, par, st, rg, pc, sp, fl, mk, cd, wy, nn⟩ := p
  obtain ⟨r0, r1, r2, r3, r4, r5, r6, r7, r8, r9, r10, r11, r12, r13, r14, r15, rfl⟩ := list16' rg hp.regs
  obtain ⟨g0, g1, g2, g3, g4, g5, g6, g7, g8, g9, g10, g11, g12, g13, g14, g15, rfl⟩ := list16' sp hp.space
  obtain ⟨f0, f1, f2, f3, f4, f5, f6, f7, rfl⟩ := list8' fl hp.fds
  have k0 : KOk 7 3 (((prCells ⟨pid, par, st, [r0, r1, r2, r3, r4, r5, r6, r7, r8, r9, r10, r11, r12, r13, r14, r15], pc, [g0, g1, g2, g3, g4, g5, g6, g7, g8, g9, g10, g11, g12, g13, g14, g15], [f0, f1, f2, f3, f4, f5, f6, f7], mk, cd, wy, nn⟩).drop 0).take (Tryz.prog.cellsOf 3)) := by
    rw [show Tryz.prog.cellsOf 3 = 1 by kernel_rfl]
    exact (show KOk 7 3 ([.int .i64 pid]) from k_int Tryz.underlying3 (wf_j8 hp.pid))
  have k1 : KOk 7 3 (((prCells ⟨pid, par, st, [r0, r1, r2, r3, r4, r5, r6, r7, r8, r9, r10, r11, r12, r13, r14, r15], pc, [g0, g1, g2, g3, g4, g5, g6, g7, g8, g9, g10, g11, g12, g13, g14, g15], [f0, f1, f2, f3, f4, f5, f6, f7], mk, cd, wy, nn⟩).drop 1).take (Tryz.prog.cellsOf 3)) := by
    rw [show Tryz.prog.cellsOf 3 = 1 by kernel_rfl]
    exact (show KOk 7 3 ([.int .i64 par]) from k_int Tryz.underlying3 (wf_j8 hp.parent))
  have k2 : KOk 7 3 (((prCells ⟨pid, par, st, [r0, r1, r2, r3, r4, r5, r6, r7, r8, r9, r10, r11, r12, r13, r14, r15], pc, [g0, g1, g2, g3, g4, g5, g6, g7, g8, g9, g10, g11, g12, g13, g14, g15], [f0, f1, f2, f3, f4, f5, f6, f7], mk, cd, wy, nn⟩).drop 2).take (Tryz.prog.cellsOf 3)) := by
    rw [show Tryz.prog.cellsOf 3 = 1 by kernel_rfl]
    exact (show KOk 7 3 ([.int .i64 st]) from k_int Tryz.underlying3 (wf_j8 hp.state))
  have k3 : KOk 7 58 (((prCells ⟨pid, par, st, [r0, r1, r2, r3, r4, r5, r6, r7, r8, r9, r10, r11, r12, r13, r14, r15], pc, [g0, g1, g2, g3, g4, g5, g6, g7, g8, g9, g10, g11, g12, g13, g14, g15], [f0, f1, f2, f3, f4, f5, f6, f7], mk, cd, wy, nn⟩).drop 3).take (Tryz.prog.cellsOf 58)) := by
    rw [show Tryz.prog.cellsOf 58 = 17 by kernel_rfl]
    exact (show KOk 7 58 (rgCells [r0, r1, r2, r3, r4, r5, r6, r7, r8, r9, r10, r11, r12, r13, r14, r15] ++ [.int .u32 pc]) from k_cpu _ _ rfl hp.reg hp.pc)
  have k4 : KOk 7 62 (((prCells ⟨pid, par, st, [r0, r1, r2, r3, r4, r5, r6, r7, r8, r9, r10, r11, r12, r13, r14, r15], pc, [g0, g1, g2, g3, g4, g5, g6, g7, g8, g9, g10, g11, g12, g13, g14, g15], [f0, f1, f2, f3, f4, f5, f6, f7], mk, cd, wy, nn⟩).drop 20).take (Tryz.prog.cellsOf 62)) := by
    rw [show Tryz.prog.cellsOf 62 = 48 by kernel_rfl]
    exact (show KOk 7 62 (pgCells [g0, g1, g2, g3, g4, g5, g6, g7, g8, g9, g10, g11, g12, g13, g14, g15]) from k_space _ rfl hp.page)
  have k5 : KOk 7 65 (((prCells ⟨pid, par, st, [r0, r1, r2, r3, r4, r5, r6, r7, r8, r9, r10, r11, r12, r13, r14, r15], pc, [g0, g1, g2, g3, g4, g5, g6, g7, g8, g9, g10, g11, g12, g13, g14, g15], [f0, f1, f2, f3, f4, f5, f6, f7], mk, cd, wy, nn⟩).drop 68).take (Tryz.prog.cellsOf 65)) := by
    rw [show Tryz.prog.cellsOf 65 = 24 by kernel_rfl]
    exact (show KOk 7 65 (flCells [f0, f1, f2, f3, f4, f5, f6, f7]) from k_fds _ rfl hp.fd)
  have k6 : KOk 7 4 (((prCells ⟨pid, par, st, [r0, r1, r2, r3, r4, r5, r6, r7, r8, r9, r10, r11, r12, r13, r14, r15], pc, [g0, g1, g2, g3, g4, g5, g6, g7, g8, g9, g10, g11, g12, g13, g14, g15], [f0, f1, f2, f3, f4, f5, f6, f7], mk, cd, wy, nn⟩).drop 92).take (Tryz.prog.cellsOf 4)) := by
    rw [show Tryz.prog.cellsOf 4 = 1 by kernel_rfl]
    exact (show KOk 7 4 ([.bool mk]) from k_bool Tryz.underlying4)
  have k7 : KOk 7 55 (((prCells ⟨pid, par, st, [r0, r1, r2, r3, r4, r5, r6, r7, r8, r9, r10, r11, r12, r13, r14, r15], pc, [g0, g1, g2, g3, g4, g5, g6, g7, g8, g9, g10, g11, g12, g13, g14, g15], [f0, f1, f2, f3, f4, f5, f6, f7], mk, cd, wy, nn⟩).drop 93).take (Tryz.prog.cellsOf 55)) := by
    rw [show Tryz.prog.cellsOf 55 = 1 by kernel_rfl]
    exact (show KOk 7 55 ([.int .u32 cd]) from k_int Tryz.underlying55 (wf_u32 hp.code))
  have k8 : KOk 7 3 (((prCells ⟨pid, par, st, [r0, r1, r2, r3, r4, r5, r6, r7, r8, r9, r10, r11, r12, r13, r14, r15], pc, [g0, g1, g2, g3, g4, g5, g6, g7, g8, g9, g10, g11, g12, g13, g14, g15], [f0, f1, f2, f3, f4, f5, f6, f7], mk, cd, wy, nn⟩).drop 94).take (Tryz.prog.cellsOf 3)) := by
    rw [show Tryz.prog.cellsOf 3 = 1 by kernel_rfl]
    exact (show KOk 7 3 ([.int .i64 wy]) from k_int Tryz.underlying3 (wf_j8 hp.why))
  have k9 : KOk 7 22 (((prCells ⟨pid, par, st, [r0, r1, r2, r3, r4, r5, r6, r7, r8, r9, r10, r11, r12, r13, r14, r15], pc, [g0, g1, g2, g3, g4, g5, g6, g7, g8, g9, g10, g11, g12, g13, g14, g15], [f0, f1, f2, f3, f4, f5, f6, f7], mk, cd, wy, nn⟩).drop 95).take (Tryz.prog.cellsOf 22)) := by
    rw [show Tryz.prog.cellsOf 22 = 1 by kernel_rfl]
    exact (show KOk 7 22 ([.int .u64 nn]) from k_int Tryz.underlying22 (wf_u64 hp.n))
  exact ⟨k_struct Tryz.underlying67 (by kernel_rfl) (by kernel_rfl) ⟨k0, k1, k2, k3, k4, k5, k6, k7, k8, k9, trivial⟩, by kernel_rfl⟩
theorem pr_same (w : World) {p : Pr} (hp : PrOk p) : (Op.equal 67 (.agg (prCells p).toArray) (.agg (prCells p).toArray)).run Tryz.prog w = .ok true w := by
  obtain ⟨h1, h2⟩ := pr_keys hp
  obtain ⟨la, hla⟩ := Option.isSome_iff_exists.1 (show (Tryz.prog.keyLits 8 67 (prCells p)).isSome = true from h1)
  obtain ⟨r, hr, hiff⟩ := run_equalIn_deep (P := Tryz.prog) 9992 8 67 (by kernel_rfl) w 8 8 _ _ la la h2 h2 hla hla
  rw [hiff.2 rfl] at hr
  exact hr
theorem pr_neq (w : World) {p : Pr} (hp : PrOk p) : (binOp .neq 67 (.agg (prCells p).toArray) (.agg (prCells p).toArray)).run Tryz.prog w = .ok (.bool false) w := by
  unfold binOp
  simp only [Sem.run_bind, pr_same w hp, Result.andThen_ok, Sem.run_pure, Bool.not_true]
/-- two structs that are the same, compared -/
theorem oper_neq_same {P : Program} {o : Oper} {K : Act → World → Prop} {a : Act} {w : World} {Q : Exit → Act → World → Prop} (ty : TypeId) (x y : Operand) (ho : o.op = .binOp .neq ty x y ty) (cs : Array Value) (hx : a.eval x = .agg cs) (hy : a.eval y = .agg cs)
    (hg : P.eqGuardType P.depth ty = false) (hr : (binOp .neq ty (.agg cs) (.agg cs)).run P w = .ok (.bool false) w) (h : K (a.put o.dst (.bool false)) w) : o.wp P a w K Q := by
  unfold Oper.wp execOp
  simp only [ho, hx, hy, Sem.run_bind, run_eqGuard_agg w .neq ty x y cs cs hg, Result.andThen_ok, hr, Sem.run_pure]
  exact h
set_option maxRecDepth 100000 in
set_option maxHeartbeats 2000000 in
theorem large_any (w : World) (a : MA) (m : Mc) (hA : MAt w w.heap.size a m) :
    Calls Tryz.prog 7 #[.agg (mcL a m).toArray] w fun e w' => (e = .returned (.int .i64 1) ∨ (e = .returned (.int .i64 0) ∧ LargeOk m)) ∧ Below w.heap.size w w' := by
  have hs0 := Whole.made w 30 (mcL a m).toArray
  have hb : Below w.heap.size w (w.alloc (.cells (mcL a m).toArray 30)) := (Below.refl _ _).alloc (Nat.le_refl _) _
  go_enter Tryz.func7, Tryz.ntmps7
  go_upto_region 1 with (fail)
  change Code.wp _ _ _ _ (w.alloc (.cells (mcL a m).toArray 30))
  generalize (w.alloc (.cells (mcL a m).toArray 30)) = w1 at *
  generalize hgx : w.heap.size = gx at *
  have HGX := Lib.hid hgx
  have HS0 := Lib.hid hs0
  have HW := Lib.hid hb
  have hgl : gx < w1.heap.size := hs0.lt
  clear hgx hb hs0
  have HA := Lib.hid (hA.below HW.out)
  have m4 : w1.cell? ⟨gx, 4, none⟩ = some (.slice a.F m.frames.length a.cF) := HS0.out.cell 4
  have m5 : w1.cell? ⟨gx, 5, none⟩ = some (.slice a.P m.procs.length a.cP) := HS0.out.cell 5
  have m7 : w1.cell? ⟨gx, 7, none⟩ = some (S m.init) := HS0.out.cell 7
  have m8 : w1.cell? ⟨gx, 8, none⟩ = some (.slice a.Q m.pipes.length a.cQ) := HS0.out.cell 8
  have m10 : w1.cell? ⟨gx, 10, none⟩ = some (S m.inp) := HS0.out.cell 10
  have m13 : w1.cell? ⟨gx, 13, none⟩ = some (.slice a.L m.blocks.length a.cL) := HS0.out.cell 13
  have m14 : w1.cell? ⟨gx, 14, none⟩ = some (.slice a.N m.pend.length a.cN) := HS0.out.cell 14
  have m16 : w1.cell? ⟨gx, 16, none⟩ = some (.slice a.D m.dirty.length a.cD) := HS0.out.cell 16
  have CG := Lib.hid (great32_any w1 a.F a.L a.cF a.cL m.frames m.blocks [] ((HA.out.wide (by omega)).F) ((HA.out.wide (by omega)).L))
  clear hA
  go_wp2_with fail
  all_goals first
    | (go_ret; exact ⟨.inl rfl, by rw [HGX.out]; exact HW.out⟩)
    | (refine CG.out.mono ?_
       rintro e w2 ⟨he, hb2⟩
       have HB2 := Lib.hid hb2
       clear hb2 CG
       rcases he with rfl | ⟨rfl, hs⟩
       · go_wp2_with fail
         go_ret
         exact ⟨.inl rfl, by rw [HGX.out]; exact HW.out.trans (HB2.out.mono (by omega))⟩
       · have HSM := Lib.hid hs
         clear hs
         go_wp2_with fail
         go_ret
         refine ⟨.inr ⟨rfl, ⟨?_, ?_, ?_, ?_, ?_, ?_, HSM.out⟩⟩, by rw [HGX.out]; exact HW.out.trans (HB2.out.mono (by omega))⟩ <;> omega)
set_option maxRecDepth 100000 in
set_option maxHeartbeats 4000000 in
theorem sameMachine_any (w : World) (a b : MA) (m n : Mc) (hm : McOk m) (hn : McOk n) (cm : checkE m = 0) (cn : checkE n = 0) (lm : m.pend.length ≤ 4096) (ln : n.pend.length ≤ 4096) (hA : MAt w w.heap.size a m) (hB : MAt w w.heap.size b n) :
    Calls Tryz.prog 11 #[.agg (mcL a m).toArray, .agg (mcL b n).toArray] w fun e w' => e = .returned (.bool (decide (m.frames = n.frames ∧ m.blocks = n.blocks ∧ restB m = restB n))) ∧ Below w.heap.size w w' := by
  have hs0 := (Whole.made w 30 (mcL a m).toArray).block (.cells (mcL b n).toArray 30)
  have hs1 := Whole.made (w.alloc (.cells (mcL a m).toArray 30)) 30 (mcL b n).toArray
  rw [show (w.alloc (.cells (mcL a m).toArray 30)).heap.size = w.heap.size + 1 by simp] at hs1
  have hb : Below w.heap.size w ((w.alloc (.cells (mcL a m).toArray 30)).alloc (.cells (mcL b n).toArray 30)) := ((Below.refl _ _).alloc (by first | exact Nat.le_refl _ | simp | (simp; omega)) _).alloc (by first | exact Nat.le_refl _ | simp | (simp; omega)) _
  go_enter Tryz.func11, Tryz.ntmps11
  go_upto_region 1 with (fail)
  change Code.wp _ _ _ _ ((w.alloc (.cells (mcL a m).toArray 30)).alloc (.cells (mcL b n).toArray 30))
  generalize ((w.alloc (.cells (mcL a m).toArray 30)).alloc (.cells (mcL b n).toArray 30)) = w1 at *
  generalize hgx : w.heap.size = gx at *
  have HGX := Lib.hid hgx
  have HS0 := Lib.hid hs0
  have HS1 := Lib.hid hs1
  have HW := Lib.hid hb
  have hgl : gx + 1 < w1.heap.size := hs1.lt
  clear hgx hb hs0 hs1
  have HA := Lib.hid (hA.below HW.out)
  have HB := Lib.hid (hB.below HW.out)
  have HM := Lib.hid hm
  have HN := Lib.hid hn
  have HMA : Hid (∀ W, Below w1.heap.size w1 W → MAt W W.heap.size a m) := Lib.hid fun W hW => (HA.out.below (hW.mono (by omega))).wide (by have := hW.size; omega)
  have HMB : Hid (∀ W, Below w1.heap.size w1 W → MAt W W.heap.size b n) := Lib.hid fun W hW => (HB.out.below (hW.mono (by omega))).wide (by have := hW.size; omega)
  have HC : Hid (∀ W, Below w1.heap.size w1 W → Whole W gx 30 (mcL a m).toArray) := Lib.hid fun W hW => HS0.out.below hW (by omega)
  have HD : Hid (∀ W, Below w1.heap.size w1 W → Whole W (gx + 1) 30 (mcL b n).toArray) := Lib.hid fun W hW => HS1.out.below hW hgl
  have HLM : Hid (∀ W, Below w1.heap.size w1 W → ∀ j v, (mcL a m)[j]? = some v → W.cell? ((⟨gx, 0, none⟩ : Addr).add j) = some v) := Lib.hid fun W hW => (HC.out W hW).reads
  have HLN : Hid (∀ W, Below w1.heap.size w1 W → ∀ j v, (mcL b n)[j]? = some v → W.cell? ((⟨gx + 1, 0, none⟩ : Addr).add j) = some v) := Lib.hid fun W hW => (HD.out W hW).reads
  have MI : Hid ((Tryz.prog.info? 30).map (·.size) = some (mcL a m).length) := Lib.hid (by rw [mcL_length]; exact Tryz.sizeMc)
  have NI : Hid ((Tryz.prog.info? 30).map (·.size) = some (mcL b n).length) := Lib.hid (by rw [mcL_length]; exact Tryz.sizeMc)
  have RM := Lib.hid (rest_ok cm lm)
  have RN := Lib.hid (rest_ok cn ln)
  have HPI := Lib.hid (rest_procs hm hn cm cn)
  obtain ⟨f1, f2, f3, f4, _⟩ := hm.sizes
  obtain ⟨g1, g2, g3, g4, _⟩ := hn.sizes
  clear hm hn cm cn lm ln hA hB
  by_cases h1 : m.frames = n.frames
  · have CF : Hid (∀ W, Below w1.heap.size w1 W → Calls Tryz.prog 32 #[.slice a.F m.frames.length a.cF, .slice b.F n.frames.length b.cF] W fun e w' => e = .returned (.bool true) ∧ Below W.heap.size W w') := Lib.hid fun W hS => by
      have h := texts32_any W a.F b.F a.cF b.cF m.frames n.frames (HMA.out W hS).F (HMB.out W hS).F (by omega) (by omega)
      rw [decide_eq_true h1] at h
      exact h
    have H1 := Lib.hid h1
    clear h1
    by_cases h2 : m.blocks = n.blocks
    · have CL : Hid (∀ W, Below w1.heap.size w1 W → Calls Tryz.prog 32 #[.slice a.L m.blocks.length a.cL, .slice b.L n.blocks.length b.cL] W fun e w' => e = .returned (.bool true) ∧ Below W.heap.size W w') := Lib.hid fun W hS => by
        have h := texts32_any W a.L b.L a.cL b.cL m.blocks n.blocks (HMA.out W hS).L (HMB.out W hS).L (by omega) (by omega)
        rw [decide_eq_true h2] at h
        exact h
      have H2 := Lib.hid h2
      clear h2
      have CR : Hid (∀ W, Below w1.heap.size w1 W → Calls Tryz.prog 33 #[.agg (mcL a m).toArray] W fun e w' => e = .returned (S (restB m)) ∧ Below W.heap.size W w') := Lib.hid fun W hS => rrest_any W a m HM.out RM.out (HMA.out W hS)
      have CQ : Hid (∀ W, Below w1.heap.size w1 W → Calls Tryz.prog 33 #[.agg (mcL b n).toArray] W fun e w' => e = .returned (S (restB n)) ∧ Below W.heap.size W w') := Lib.hid fun W hS => rrest_any W b n HN.out RN.out (HMB.out W hS)
      by_cases h3 : restB m = restB n
      · have HRR := Lib.hid h3
        have HPE : Hid (n.procs = m.procs) := Lib.hid (HPI.out h3).symm
        have HPB : Hid (∀ W, Below w1.heap.size w1 W → Lies W W.heap.size b.P (prsCells m.procs)) := Lib.hid fun W hW => by rw [← HPE.out]; exact (HMB.out W hW).P
        rw [← h3] at CQ
        obtain ⟨r1, HR1⟩ : ∃ z, Hid (restB m = z) := ⟨_, Lib.hid rfl⟩
        rw [HR1.out] at CR CQ
        clear h3 f1 f3 f4 g1 g2 g3 g4 HPI
        refine' wp_region_sure (by kernel_rfl) (fun W => Below w1.heap.size w1 W) 23 [_, _, _, _, _, _, _, _, _, _, _, _, _, _, _, _, _, _, _, _, _, _, _] [some 6, some 7, some 8, some 9, some 10, some 11, some 12, some 13, some 14, some 15, some 16, some 17, some 18, some 19, some 20, some 21, some 22, some 23, some 24, some 25, some 26, some 27, some 28] (by kernel_rfl) (by kernel_rfl) (by kernel_rfl) (by kernel_rfl) rfl (Below.refl _ _).drew ?hsy
        case hsy =>
          refine sure_cons ?_ ?_
          · intro L ac W K hed hJ hS hK
            have hA2 : ac.eval (.tmp 2) = .pointer (some ⟨gx, 0, none⟩) := hJ.eval_old 2 (by kernel_rfl)
            clear hed hJ
            refine opStep_of rfl ?_
            unfold Oper.wp execOp
            have hN2 := evalN hA2
            go_simp
            exact hK _ hS
          refine sure_cons ?_ ?_
          · intro L ac W K hed hJ hS hK
            have hn := needs_spec (l := [0]) (by kernel_rfl) hed
            have hA6 := hJ.eval 0 (d := 6) (hn 0 (by simp)) rfl rfl rfl
            clear hed hJ hn
            refine opStep_of rfl ?_
            have cc : W.cell? ⟨gx, 4, none⟩ = some (.slice a.F m.frames.length a.cF) := (HC.out W hS).cell 4
            unfold Oper.wp execOp
            have hN6 := evalN hA6
            go_simp
            exact hK _ hS
          refine sure_cons ?_ ?_
          · intro L ac W K hed hJ hS hK
            have hA3 : ac.eval (.tmp 3) = .pointer (some ⟨gx + 1, 0, none⟩) := hJ.eval_old 3 (by kernel_rfl)
            clear hed hJ
            refine opStep_of rfl ?_
            unfold Oper.wp execOp
            have hN3 := evalN hA3
            go_simp
            exact hK _ hS
          refine sure_cons ?_ ?_
          · intro L ac W K hed hJ hS hK
            have hn := needs_spec (l := [2]) (by kernel_rfl) hed
            have hA8 := hJ.eval 2 (d := 8) (hn 2 (by simp)) rfl rfl rfl
            clear hed hJ hn
            refine opStep_of rfl ?_
            have cc : W.cell? ⟨gx + 1, 4, none⟩ = some (.slice b.F n.frames.length b.cF) := (HD.out W hS).cell 4
            unfold Oper.wp execOp
            have hN8 := evalN hA8
            go_simp
            exact hK _ hS
          refine sure_cons ?_ ?_
          · intro L ac W K hed hJ hS hK
            have hn := needs_spec (l := [1, 3]) (by kernel_rfl) hed
            have hA7 := hJ.eval 1 (d := 7) (hn 1 (by simp)) rfl rfl rfl
            have hA9 := hJ.eval 3 (d := 9) (hn 3 (by simp)) rfl rfl rfl
            clear hed hJ hn
            refine opStep_of rfl ?_
            unfold Oper.wp execOp
            have hN7 := evalN hA7
            have hN9 := evalN hA9
            go_simp
            refine (CF.out W hS).mono ?_
            rintro e W' ⟨rfl, hb⟩
            have hS2 := hS.trans (hb.mono hS.size)
            dsimp only
            exact hK W' hS2
          refine sure_cons ?_ ?_
          · intro L ac W K hed hJ hS hK
            have hn := needs_spec (l := [4]) (by kernel_rfl) hed
            have hA10 := hJ.eval 4 (d := 10) (hn 4 (by simp)) rfl rfl rfl
            clear hed hJ hn
            refine opStep_of rfl ?_
            unfold Oper.wp execOp
            have hN10 := evalN hA10
            go_simp
            exact hK _ hS
          refine sure_cons ?_ ?_
          · intro L ac W K hed hJ hS hK
            have hn := needs_spec (l := [5]) (by kernel_rfl) hed
            have hA11 := hJ.eval 5 (d := 11) (hn 5 (by simp)) rfl rfl rfl
            clear hed hJ hn
            refine opStep_of rfl ?_
            unfold Oper.wp execOp
            have hN11 := evalN hA11
            go_simp
            exact hK _ hS
          refine sure_cons ?_ ?_
          · intro L ac W K hed hJ hS hK
            have hn := needs_spec (l := [6]) (by kernel_rfl) hed
            have hA2 : ac.eval (.tmp 2) = .pointer (some ⟨gx, 0, none⟩) := hJ.eval_old 2 (by kernel_rfl)
            have hA12 := hJ.eval 6 (d := 12) (hn 6 (by simp)) rfl rfl rfl
            have hsz := Lib.hid hJ.size
            clear hed hJ hn
            refine opStep_yes rfl (d := 12) rfl (by rw [hsz.out]; rfl) hA12 ?_
            clear hsz
            unfold Oper.wp execOp
            have hN2 := evalN hA2
            go_simp
            exact hK _ hS
          refine sure_cons ?_ ?_
          · intro L ac W K hed hJ hS hK
            have hn := needs_spec (l := [6, 7]) (by kernel_rfl) hed
            have hA13 := hJ.eval 7 (d := 13) (hn 7 (by simp)) rfl rfl rfl
            have hA12 := hJ.eval 6 (d := 12) (hn 6 (by simp)) rfl rfl rfl
            have hsz := Lib.hid hJ.size
            clear hed hJ hn
            refine opStep_yes rfl (d := 12) rfl (by rw [hsz.out]; rfl) hA12 ?_
            clear hsz
            unfold Oper.wp execOp
            have hN13 := evalN hA13
            go_simp
            exact hK _ hS
          refine sure_cons ?_ ?_
          · intro L ac W K hed hJ hS hK
            have hn := needs_spec (l := [6, 8]) (by kernel_rfl) hed
            have hA14 := hJ.eval 8 (d := 14) (hn 8 (by simp)) rfl rfl rfl
            have hA12 := hJ.eval 6 (d := 12) (hn 6 (by simp)) rfl rfl rfl
            have hsz := Lib.hid hJ.size
            clear hed hJ hn
            refine opStep_yes rfl (d := 12) rfl (by rw [hsz.out]; rfl) hA12 ?_
            clear hsz
            have cc : W.cell? ⟨gx, 13, none⟩ = some (.slice a.L m.blocks.length a.cL) := (HC.out W hS).cell 13
            unfold Oper.wp execOp
            have hN14 := evalN hA14
            go_simp
            exact hK _ hS
          refine sure_cons ?_ ?_
          · intro L ac W K hed hJ hS hK
            have hn := needs_spec (l := [6]) (by kernel_rfl) hed
            have hA3 : ac.eval (.tmp 3) = .pointer (some ⟨gx + 1, 0, none⟩) := hJ.eval_old 3 (by kernel_rfl)
            have hA12 := hJ.eval 6 (d := 12) (hn 6 (by simp)) rfl rfl rfl
            have hsz := Lib.hid hJ.size
            clear hed hJ hn
            refine opStep_yes rfl (d := 12) rfl (by rw [hsz.out]; rfl) hA12 ?_
            clear hsz
            unfold Oper.wp execOp
            have hN3 := evalN hA3
            go_simp
            exact hK _ hS
          refine sure_cons ?_ ?_
          · intro L ac W K hed hJ hS hK
            have hn := needs_spec (l := [6, 10]) (by kernel_rfl) hed
            have hA16 := hJ.eval 10 (d := 16) (hn 10 (by simp)) rfl rfl rfl
            have hA12 := hJ.eval 6 (d := 12) (hn 6 (by simp)) rfl rfl rfl
            have hsz := Lib.hid hJ.size
            clear hed hJ hn
            refine opStep_yes rfl (d := 12) rfl (by rw [hsz.out]; rfl) hA12 ?_
            clear hsz
            unfold Oper.wp execOp
            have hN16 := evalN hA16
            go_simp
            exact hK _ hS
          refine sure_cons ?_ ?_
          · intro L ac W K hed hJ hS hK
            have hn := needs_spec (l := [6, 11]) (by kernel_rfl) hed
            have hA17 := hJ.eval 11 (d := 17) (hn 11 (by simp)) rfl rfl rfl
            have hA12 := hJ.eval 6 (d := 12) (hn 6 (by simp)) rfl rfl rfl
            have hsz := Lib.hid hJ.size
            clear hed hJ hn
            refine opStep_yes rfl (d := 12) rfl (by rw [hsz.out]; rfl) hA12 ?_
            clear hsz
            have cc : W.cell? ⟨gx + 1, 13, none⟩ = some (.slice b.L n.blocks.length b.cL) := (HD.out W hS).cell 13
            unfold Oper.wp execOp
            have hN17 := evalN hA17
            go_simp
            exact hK _ hS
          refine sure_cons ?_ ?_
          · intro L ac W K hed hJ hS hK
            have hn := needs_spec (l := [6, 9, 12]) (by kernel_rfl) hed
            have hA15 := hJ.eval 9 (d := 15) (hn 9 (by simp)) rfl rfl rfl
            have hA18 := hJ.eval 12 (d := 18) (hn 12 (by simp)) rfl rfl rfl
            have hA12 := hJ.eval 6 (d := 12) (hn 6 (by simp)) rfl rfl rfl
            have hsz := Lib.hid hJ.size
            clear hed hJ hn
            refine opStep_yes rfl (d := 12) rfl (by rw [hsz.out]; rfl) hA12 ?_
            clear hsz
            unfold Oper.wp execOp
            have hN15 := evalN hA15
            have hN18 := evalN hA18
            go_simp
            refine (CL.out W hS).mono ?_
            rintro e W' ⟨rfl, hb⟩
            have hS2 := hS.trans (hb.mono hS.size)
            dsimp only
            exact hK W' hS2
          refine sure_cons ?_ ?_
          · intro L ac W K hed hJ hS hK
            have hn := needs_spec (l := [6, 13]) (by kernel_rfl) hed
            have hA19 := hJ.eval 13 (d := 19) (hn 13 (by simp)) rfl rfl rfl
            have hA12 := hJ.eval 6 (d := 12) (hn 6 (by simp)) rfl rfl rfl
            have hsz := Lib.hid hJ.size
            clear hed hJ hn
            refine opStep_yes rfl (d := 12) rfl (by rw [hsz.out]; rfl) hA12 ?_
            clear hsz
            unfold Oper.wp execOp
            have hN19 := evalN hA19
            go_simp
            exact hK _ hS
          refine sure_cons ?_ ?_
          · intro L ac W K hed hJ hS hK
            have hn := needs_spec (l := [6, 14]) (by kernel_rfl) hed
            have hA12 := hJ.eval 6 (d := 12) (hn 6 (by simp)) rfl rfl rfl
            have hA20 := hJ.eval 14 (d := 20) (hn 14 (by simp)) rfl rfl rfl
            clear hed hJ hn
            refine opStep_of rfl ?_
            unfold Oper.wp execOp
            have hN12 := evalN hA12
            have hN20 := evalN hA20
            go_simp
            exact hK _ hS
          refine sure_cons ?_ ?_
          · intro L ac W K hed hJ hS hK
            have hn := needs_spec (l := [15]) (by kernel_rfl) hed
            have hA21 := hJ.eval 15 (d := 21) (hn 15 (by simp)) rfl rfl rfl
            clear hed hJ hn
            refine opStep_of rfl ?_
            unfold Oper.wp execOp
            have hN21 := evalN hA21
            go_simp
            exact hK _ hS
          refine sure_cons ?_ ?_
          · intro L ac W K hed hJ hS hK
            have hn := needs_spec (l := [16]) (by kernel_rfl) hed
            have hA2 : ac.eval (.tmp 2) = .pointer (some ⟨gx, 0, none⟩) := hJ.eval_old 2 (by kernel_rfl)
            have hA22 := hJ.eval 16 (d := 22) (hn 16 (by simp)) rfl rfl rfl
            have hsz := Lib.hid hJ.size
            clear hed hJ hn
            refine opStep_yes rfl (d := 22) rfl (by rw [hsz.out]; rfl) hA22 ?_
            clear hsz
            refine oper_load_at 30 (.tmp 2) rfl ⟨gx, 0, none⟩ hA2 (mcL a m) _ (HLM.out W hS) Tryz.underlying30 rfl MI.out ?_
            exact hK _ hS
          refine sure_cons ?_ ?_
          · intro L ac W K hed hJ hS hK
            have hn := needs_spec (l := [16, 17]) (by kernel_rfl) hed
            have hA23 := hJ.eval 17 (d := 23) (hn 17 (by simp)) rfl rfl rfl
            have hA22 := hJ.eval 16 (d := 22) (hn 16 (by simp)) rfl rfl rfl
            have hsz := Lib.hid hJ.size
            clear hed hJ hn
            refine opStep_yes rfl (d := 22) rfl (by rw [hsz.out]; rfl) hA22 ?_
            clear hsz
            unfold Oper.wp execOp
            have hN23 := evalN hA23
            go_simp
            refine (CR.out W hS).mono ?_
            rintro e W' ⟨rfl, hb⟩
            have hS2 := hS.trans (hb.mono hS.size)
            dsimp only
            exact hK W' hS2
          refine sure_cons ?_ ?_
          · intro L ac W K hed hJ hS hK
            have hn := needs_spec (l := [16]) (by kernel_rfl) hed
            have hA3 : ac.eval (.tmp 3) = .pointer (some ⟨gx + 1, 0, none⟩) := hJ.eval_old 3 (by kernel_rfl)
            have hA22 := hJ.eval 16 (d := 22) (hn 16 (by simp)) rfl rfl rfl
            have hsz := Lib.hid hJ.size
            clear hed hJ hn
            refine opStep_yes rfl (d := 22) rfl (by rw [hsz.out]; rfl) hA22 ?_
            clear hsz
            refine oper_load_at 30 (.tmp 3) rfl ⟨gx + 1, 0, none⟩ hA3 (mcL b n) _ (HLN.out W hS) Tryz.underlying30 rfl NI.out ?_
            exact hK _ hS
          refine sure_cons ?_ ?_
          · intro L ac W K hed hJ hS hK
            have hn := needs_spec (l := [16, 19]) (by kernel_rfl) hed
            have hA25 := hJ.eval 19 (d := 25) (hn 19 (by simp)) rfl rfl rfl
            have hA22 := hJ.eval 16 (d := 22) (hn 16 (by simp)) rfl rfl rfl
            have hsz := Lib.hid hJ.size
            clear hed hJ hn
            refine opStep_yes rfl (d := 22) rfl (by rw [hsz.out]; rfl) hA22 ?_
            clear hsz
            unfold Oper.wp execOp
            have hN25 := evalN hA25
            go_simp
            refine (CQ.out W hS).mono ?_
            rintro e W' ⟨rfl, hb⟩
            have hS2 := hS.trans (hb.mono hS.size)
            dsimp only
            exact hK W' hS2
          refine sure_cons ?_ ?_
          · intro L ac W K hed hJ hS hK
            have hn := needs_spec (l := [16, 18, 20]) (by kernel_rfl) hed
            have hA24 := hJ.eval 18 (d := 24) (hn 18 (by simp)) rfl rfl rfl
            have hA26 := hJ.eval 20 (d := 26) (hn 20 (by simp)) rfl rfl rfl
            have hA22 := hJ.eval 16 (d := 22) (hn 16 (by simp)) rfl rfl rfl
            have hsz := Lib.hid hJ.size
            clear hed hJ hn
            refine opStep_yes rfl (d := 22) rfl (by rw [hsz.out]; rfl) hA22 ?_
            clear hsz
            unfold Oper.wp execOp
            have hN24 := evalN hA24
            have hN26 := evalN hA26
            go_simp
            exact hK _ hS
          refine sure_cons ?_ ?_
          · intro L ac W K hed hJ hS hK
            have hn := needs_spec (l := [16, 21]) (by kernel_rfl) hed
            have hA22 := hJ.eval 16 (d := 22) (hn 16 (by simp)) rfl rfl rfl
            have hA27 := hJ.eval 21 (d := 27) (hn 21 (by simp)) rfl rfl rfl
            clear hed hJ hn
            refine opStep_of rfl ?_
            unfold Oper.wp execOp
            have hN22 := evalN hA22
            have hN27 := evalN hA27
            go_simp
            exact hK _ hS
          refine sure_nil ?_
          intro W hS
          simp only [putAll, Act.put, List.setIfInBounds_toArray, List.set_cons_zero, List.set_cons_succ]
          have HV := Lib.hid hS
          clear hS
          have cc : W.cell? ⟨gx, 5, none⟩ = some (.slice a.P m.procs.length a.cP) := (HC.out W HV.out).cell 5
          go_wp2_with fail
          clear cc
          go_loopw [32] (fun i wr => ∃ (k : Nat), k ≤ m.procs.length ∧ i = .int .i64 (k : Int) ∧ Hid (Below w1.heap.size w1 wr)) (fun i _ => m.procs.length - (intOf i).toNat)
          case atStart => exact ⟨0, by omega, rfl, HV⟩
          case round =>
            obtain ⟨k, hk, rfl, HR⟩ := hrel
            have hzr := HR.out.size
            by_cases hlt : k < m.procs.length
            · obtain ⟨x, hx⟩ := get_some hlt
              have HXO := Lib.hid (HM.out.procs x (List.mem_of_getElem? hx))
              have hxl : (prCells x).length = 96 := prCells_length HXO.out
              obtain ⟨ad, hadr, had, hc⟩ := Lies.row (f := prCells) (n := 96) (HMA.out wr HR.out).P (fun y hy => prCells_length (HM.out.procs y hy)) (by omega) hx
              obtain ⟨bd, hbdr, hbd, hc'⟩ := Lies.row (f := prCells) (n := 96) (HPB.out wr HR.out) (fun y hy => prCells_length (HM.out.procs y hy)) (by omega) hx
              have LD : Hid (∀ W, Below wr.heap.size wr W → ∀ j v, (prCells x)[j]? = some v → W.cell? ((ad.add (k * 96)).add j) = some v) := Lib.hid fun W hW j v hv => (hW.cell (by rw [add_block, add_block]; exact had)).trans (hc j v hv)
              have LE : Hid (∀ W, Below wr.heap.size wr W → ∀ j v, (prCells x)[j]? = some v → W.cell? ((bd.add (k * 96)).add j) = some v) := Lib.hid fun W hW j v hv => (hW.cell (by rw [add_block, add_block]; exact hbd)).trans (hc' j v hv)
              have PIX : Hid ((Tryz.prog.info? 67).map (·.size) = some (prCells x).length) := Lib.hid (by rw [hxl]; exact Tryz.sizePr)
              have HC5 : Hid (∀ W, Below wr.heap.size wr W → W.cell? ⟨gx, 5, none⟩ = some (.slice (some ad) m.procs.length a.cP)) := Lib.hid fun W hW => by rw [← hadr]; exact (HC.out W (HR.out.trans (hW.mono hzr))).cell 5
              have HD5 : Hid (∀ W, Below wr.heap.size wr W → W.cell? ⟨gx + 1, 5, none⟩ = some (.slice (some bd) m.procs.length b.cP)) := Lib.hid fun W hW => by rw [← hbdr, ← HPE.out]; exact (HD.out W (HR.out.trans (hW.mono hzr))).cell 5
              have q0 : (0 : Int) ≤ (k : Int) := by omega
              have q1 : (k : Int) < (m.procs.length : Int) := by omega
              have d1 : decide ((k : Int) < (m.procs.length : Int)) = true := decide_eq_true q1
              have d2 : decide (k < m.procs.length) = true := decide_eq_true hlt
              clear hc hc' hx hxl
              go_upto_region 6 with (fail)
              refine' wp_region_sure (by kernel_rfl) (fun W => Below wr.heap.size wr W) 11 [_, _, _, _, _, _, _, _, _, _, _] [some 35, some 36, some 37, some 38, some 39, some 40, some 41, some 42, some 43, some 44, some 45] (by kernel_rfl) (by kernel_rfl) (by kernel_rfl) (by kernel_rfl) rfl (Below.refl _ _).drew ?hs6
              case hs6 =>
                refine sure_cons ?_ ?_
                · intro L ac W K hed hJ hS hK
                  have hA2 : ac.eval (.tmp 2) = .pointer (some ⟨gx, 0, none⟩) := hJ.eval_old 2 (by kernel_rfl)
                  clear hed hJ
                  refine opStep_of rfl ?_
                  unfold Oper.wp execOp
                  have hN2 := evalN hA2
                  go_simp
                  exact hK _ hS
                refine sure_cons ?_ ?_
                · intro L ac W K hed hJ hS hK
                  have hn := needs_spec (l := [0]) (by kernel_rfl) hed
                  have hA35 := hJ.eval 0 (d := 35) (hn 0 (by simp)) rfl rfl rfl
                  clear hed hJ hn
                  refine opStep_of rfl ?_
                  have cc := HC5.out W hS
                  unfold Oper.wp execOp
                  have hN35 := evalN hA35
                  go_simp
                  exact hK _ hS
                refine sure_cons ?_ ?_
                · intro L ac W K hed hJ hS hK
                  have hA5 : ac.eval (.tmp 5) = .int .i64 (k : Int) := hJ.eval_old 5 (by kernel_rfl)
                  clear hed hJ
                  refine opStep_of rfl ?_
                  unfold Oper.wp execOp
                  have hN5 := evalN hA5
                  go_simp
                  exact hK _ hS
                refine sure_cons ?_ ?_
                · intro L ac W K hed hJ hS hK
                  have hn := needs_spec (l := [1, 2]) (by kernel_rfl) hed
                  have hA36 := hJ.eval 1 (d := 36) (hn 1 (by simp)) rfl rfl rfl
                  have hA37 := hJ.eval 2 (d := 37) (hn 2 (by simp)) rfl rfl rfl
                  clear hed hJ hn
                  refine opStep_of rfl ?_
                  unfold Oper.wp execOp
                  have hN36 := evalN hA36
                  have hN37 := evalN hA37
                  go_simp
                  exact hK _ hS
                refine sure_cons ?_ ?_
                · intro L ac W K hed hJ hS hK
                  have hn := needs_spec (l := [3]) (by kernel_rfl) hed
                  have hA38 := hJ.eval 3 (d := 38) (hn 3 (by simp)) rfl rfl rfl
                  clear hed hJ hn
                  refine opStep_of rfl ?_
                  refine oper_load_at 67 (.tmp 38) rfl (ad.add (k * 96)) hA38 (prCells x) _ (LD.out W hS) Tryz.underlying67 rfl PIX.out ?_
                  exact hK _ hS
                refine sure_cons ?_ ?_
                · intro L ac W K hed hJ hS hK
                  have hA3 : ac.eval (.tmp 3) = .pointer (some ⟨gx + 1, 0, none⟩) := hJ.eval_old 3 (by kernel_rfl)
                  clear hed hJ
                  refine opStep_of rfl ?_
                  unfold Oper.wp execOp
                  have hN3 := evalN hA3
                  go_simp
                  exact hK _ hS
                refine sure_cons ?_ ?_
                · intro L ac W K hed hJ hS hK
                  have hn := needs_spec (l := [5]) (by kernel_rfl) hed
                  have hA40 := hJ.eval 5 (d := 40) (hn 5 (by simp)) rfl rfl rfl
                  clear hed hJ hn
                  refine opStep_of rfl ?_
                  have cc := HD5.out W hS
                  unfold Oper.wp execOp
                  have hN40 := evalN hA40
                  go_simp
                  exact hK _ hS
                refine sure_cons ?_ ?_
                · intro L ac W K hed hJ hS hK
                  have hA5 : ac.eval (.tmp 5) = .int .i64 (k : Int) := hJ.eval_old 5 (by kernel_rfl)
                  clear hed hJ
                  refine opStep_of rfl ?_
                  unfold Oper.wp execOp
                  have hN5 := evalN hA5
                  go_simp
                  exact hK _ hS
                refine sure_cons ?_ ?_
                · intro L ac W K hed hJ hS hK
                  have hn := needs_spec (l := [6, 7]) (by kernel_rfl) hed
                  have hA41 := hJ.eval 6 (d := 41) (hn 6 (by simp)) rfl rfl rfl
                  have hA42 := hJ.eval 7 (d := 42) (hn 7 (by simp)) rfl rfl rfl
                  clear hed hJ hn
                  refine opStep_of rfl ?_
                  unfold Oper.wp execOp
                  have hN41 := evalN hA41
                  have hN42 := evalN hA42
                  go_simp
                  exact hK _ hS
                refine sure_cons ?_ ?_
                · intro L ac W K hed hJ hS hK
                  have hn := needs_spec (l := [8]) (by kernel_rfl) hed
                  have hA43 := hJ.eval 8 (d := 43) (hn 8 (by simp)) rfl rfl rfl
                  clear hed hJ hn
                  refine opStep_of rfl ?_
                  refine oper_load_at 67 (.tmp 43) rfl (bd.add (k * 96)) hA43 (prCells x) _ (LE.out W hS) Tryz.underlying67 rfl PIX.out ?_
                  exact hK _ hS
                refine sure_cons ?_ ?_
                · intro L ac W K hed hJ hS hK
                  have hn := needs_spec (l := [4, 9]) (by kernel_rfl) hed
                  have hA39 := hJ.eval 4 (d := 39) (hn 4 (by simp)) rfl rfl rfl
                  have hA44 := hJ.eval 9 (d := 44) (hn 9 (by simp)) rfl rfl rfl
                  clear hed hJ hn
                  refine opStep_of rfl ?_
                  refine oper_neq_same 67 (.tmp 39) (.tmp 44) rfl (prCells x).toArray hA39 hA44 (by kernel_rfl) (pr_neq W HXO.out) ?_
                  exact hK _ hS
                refine sure_nil ?_
                intro W hS
                simp only [putAll, Act.put, List.setIfInBounds_toArray, List.set_cons_zero, List.set_cons_succ]
                have HR6 := Lib.hid (HR.out.trans (hS.mono hzr))
                clear hS
                go_wp2_with fail
                go_roundw
                case rel =>
                  have R : ∃ (k' : Nat), k' ≤ m.procs.length ∧ Value.int .i64 ((k : Int) + 1) = .int .i64 (k' : Int) ∧ Hid (Below w1.heap.size w1 W) := ⟨k + 1, by omega, by go_num, HR6⟩
                  first | exact R | ((repeat apply Exists.intro); exact ⟨R, rfl⟩)
                case measure => simp [intOf]; omega
            · obtain rfl : k = m.procs.length := by omega
              have hd : decide (m.procs.length < m.procs.length) = false := by simp
              go_wp2_with fail
              go_ret
              exact ⟨by rw [decide_eq_true ⟨H1.out, H2.out, HRR.out⟩]; rfl, by rw [HGX.out]; exact HW.out.trans (HR.out.mono (by omega))⟩
      · have HNE := Lib.hid h3
        obtain ⟨r1, HR1⟩ : ∃ z, Hid (restB m = z) := ⟨_, Lib.hid rfl⟩
        obtain ⟨r2, HR2⟩ : ∃ z, Hid (restB n = z) := ⟨_, Lib.hid rfl⟩
        have hbe : (r1 == r2) = false := beq_eq_false_iff_ne.2 (by rw [← HR1.out, ← HR2.out]; exact h3)
        have hbn : (r1 != r2) = true := by simp [bne, hbe]
        rw [HR1.out] at CR
        rw [HR2.out] at CQ
        clear h3 f1 f2 f3 f4 g1 g2 g3 g4 HPI
        refine' wp_region_sure (by kernel_rfl) (fun W => Below w1.heap.size w1 W) 23 [_, _, _, _, _, _, _, _, _, _, _, _, _, _, _, _, _, _, _, _, _, _, _] [some 6, some 7, some 8, some 9, some 10, some 11, some 12, some 13, some 14, some 15, some 16, some 17, some 18, some 19, some 20, some 21, some 22, some 23, some 24, some 25, some 26, some 27, some 28] (by kernel_rfl) (by kernel_rfl) (by kernel_rfl) (by kernel_rfl) rfl (Below.refl _ _).drew ?hsn3
        case hsn3 =>
          refine sure_cons ?_ ?_
          · intro L ac W K hed hJ hS hK
            have hA2 : ac.eval (.tmp 2) = .pointer (some ⟨gx, 0, none⟩) := hJ.eval_old 2 (by kernel_rfl)
            clear hed hJ
            refine opStep_of rfl ?_
            unfold Oper.wp execOp
            have hN2 := evalN hA2
            go_simp
            exact hK _ hS
          refine sure_cons ?_ ?_
          · intro L ac W K hed hJ hS hK
            have hn := needs_spec (l := [0]) (by kernel_rfl) hed
            have hA6 := hJ.eval 0 (d := 6) (hn 0 (by simp)) rfl rfl rfl
            clear hed hJ hn
            refine opStep_of rfl ?_
            have cc : W.cell? ⟨gx, 4, none⟩ = some (.slice a.F m.frames.length a.cF) := (HC.out W hS).cell 4
            unfold Oper.wp execOp
            have hN6 := evalN hA6
            go_simp
            exact hK _ hS
          refine sure_cons ?_ ?_
          · intro L ac W K hed hJ hS hK
            have hA3 : ac.eval (.tmp 3) = .pointer (some ⟨gx + 1, 0, none⟩) := hJ.eval_old 3 (by kernel_rfl)
            clear hed hJ
            refine opStep_of rfl ?_
            unfold Oper.wp execOp
            have hN3 := evalN hA3
            go_simp
            exact hK _ hS
          refine sure_cons ?_ ?_
          · intro L ac W K hed hJ hS hK
            have hn := needs_spec (l := [2]) (by kernel_rfl) hed
            have hA8 := hJ.eval 2 (d := 8) (hn 2 (by simp)) rfl rfl rfl
            clear hed hJ hn
            refine opStep_of rfl ?_
            have cc : W.cell? ⟨gx + 1, 4, none⟩ = some (.slice b.F n.frames.length b.cF) := (HD.out W hS).cell 4
            unfold Oper.wp execOp
            have hN8 := evalN hA8
            go_simp
            exact hK _ hS
          refine sure_cons ?_ ?_
          · intro L ac W K hed hJ hS hK
            have hn := needs_spec (l := [1, 3]) (by kernel_rfl) hed
            have hA7 := hJ.eval 1 (d := 7) (hn 1 (by simp)) rfl rfl rfl
            have hA9 := hJ.eval 3 (d := 9) (hn 3 (by simp)) rfl rfl rfl
            clear hed hJ hn
            refine opStep_of rfl ?_
            unfold Oper.wp execOp
            have hN7 := evalN hA7
            have hN9 := evalN hA9
            go_simp
            refine (CF.out W hS).mono ?_
            rintro e W' ⟨rfl, hb⟩
            have hS2 := hS.trans (hb.mono hS.size)
            dsimp only
            exact hK W' hS2
          refine sure_cons ?_ ?_
          · intro L ac W K hed hJ hS hK
            have hn := needs_spec (l := [4]) (by kernel_rfl) hed
            have hA10 := hJ.eval 4 (d := 10) (hn 4 (by simp)) rfl rfl rfl
            clear hed hJ hn
            refine opStep_of rfl ?_
            unfold Oper.wp execOp
            have hN10 := evalN hA10
            go_simp
            exact hK _ hS
          refine sure_cons ?_ ?_
          · intro L ac W K hed hJ hS hK
            have hn := needs_spec (l := [5]) (by kernel_rfl) hed
            have hA11 := hJ.eval 5 (d := 11) (hn 5 (by simp)) rfl rfl rfl
            clear hed hJ hn
            refine opStep_of rfl ?_
            unfold Oper.wp execOp
            have hN11 := evalN hA11
            go_simp
            exact hK _ hS
          refine sure_cons ?_ ?_
          · intro L ac W K hed hJ hS hK
            have hn := needs_spec (l := [6]) (by kernel_rfl) hed
            have hA2 : ac.eval (.tmp 2) = .pointer (some ⟨gx, 0, none⟩) := hJ.eval_old 2 (by kernel_rfl)
            have hA12 := hJ.eval 6 (d := 12) (hn 6 (by simp)) rfl rfl rfl
            have hsz := Lib.hid hJ.size
            clear hed hJ hn
            refine opStep_yes rfl (d := 12) rfl (by rw [hsz.out]; rfl) hA12 ?_
            clear hsz
            unfold Oper.wp execOp
            have hN2 := evalN hA2
            go_simp
            exact hK _ hS
          refine sure_cons ?_ ?_
          · intro L ac W K hed hJ hS hK
            have hn := needs_spec (l := [6, 7]) (by kernel_rfl) hed
            have hA13 := hJ.eval 7 (d := 13) (hn 7 (by simp)) rfl rfl rfl
            have hA12 := hJ.eval 6 (d := 12) (hn 6 (by simp)) rfl rfl rfl
            have hsz := Lib.hid hJ.size
            clear hed hJ hn
            refine opStep_yes rfl (d := 12) rfl (by rw [hsz.out]; rfl) hA12 ?_
            clear hsz
            unfold Oper.wp execOp
            have hN13 := evalN hA13
            go_simp
            exact hK _ hS
          refine sure_cons ?_ ?_
          · intro L ac W K hed hJ hS hK
            have hn := needs_spec (l := [6, 8]) (by kernel_rfl) hed
            have hA14 := hJ.eval 8 (d := 14) (hn 8 (by simp)) rfl rfl rfl
            have hA12 := hJ.eval 6 (d := 12) (hn 6 (by simp)) rfl rfl rfl
            have hsz := Lib.hid hJ.size
            clear hed hJ hn
            refine opStep_yes rfl (d := 12) rfl (by rw [hsz.out]; rfl) hA12 ?_
            clear hsz
            have cc : W.cell? ⟨gx, 13, none⟩ = some (.slice a.L m.blocks.length a.cL) := (HC.out W hS).cell 13
            unfold Oper.wp execOp
            have hN14 := evalN hA14
            go_simp
            exact hK _ hS
          refine sure_cons ?_ ?_
          · intro L ac W K hed hJ hS hK
            have hn := needs_spec (l := [6]) (by kernel_rfl) hed
            have hA3 : ac.eval (.tmp 3) = .pointer (some ⟨gx + 1, 0, none⟩) := hJ.eval_old 3 (by kernel_rfl)
            have hA12 := hJ.eval 6 (d := 12) (hn 6 (by simp)) rfl rfl rfl
            have hsz := Lib.hid hJ.size
            clear hed hJ hn
            refine opStep_yes rfl (d := 12) rfl (by rw [hsz.out]; rfl) hA12 ?_
            clear hsz
            unfold Oper.wp execOp
            have hN3 := evalN hA3
            go_simp
            exact hK _ hS
          refine sure_cons ?_ ?_
          · intro L ac W K hed hJ hS hK
            have hn := needs_spec (l := [6, 10]) (by kernel_rfl) hed
            have hA16 := hJ.eval 10 (d := 16) (hn 10 (by simp)) rfl rfl rfl
            have hA12 := hJ.eval 6 (d := 12) (hn 6 (by simp)) rfl rfl rfl
            have hsz := Lib.hid hJ.size
            clear hed hJ hn
            refine opStep_yes rfl (d := 12) rfl (by rw [hsz.out]; rfl) hA12 ?_
            clear hsz
            unfold Oper.wp execOp
            have hN16 := evalN hA16
            go_simp
            exact hK _ hS
          refine sure_cons ?_ ?_
          · intro L ac W K hed hJ hS hK
            have hn := needs_spec (l := [6, 11]) (by kernel_rfl) hed
            have hA17 := hJ.eval 11 (d := 17) (hn 11 (by simp)) rfl rfl rfl
            have hA12 := hJ.eval 6 (d := 12) (hn 6 (by simp)) rfl rfl rfl
            have hsz := Lib.hid hJ.size
            clear hed hJ hn
            refine opStep_yes rfl (d := 12) rfl (by rw [hsz.out]; rfl) hA12 ?_
            clear hsz
            have cc : W.cell? ⟨gx + 1, 13, none⟩ = some (.slice b.L n.blocks.length b.cL) := (HD.out W hS).cell 13
            unfold Oper.wp execOp
            have hN17 := evalN hA17
            go_simp
            exact hK _ hS
          refine sure_cons ?_ ?_
          · intro L ac W K hed hJ hS hK
            have hn := needs_spec (l := [6, 9, 12]) (by kernel_rfl) hed
            have hA15 := hJ.eval 9 (d := 15) (hn 9 (by simp)) rfl rfl rfl
            have hA18 := hJ.eval 12 (d := 18) (hn 12 (by simp)) rfl rfl rfl
            have hA12 := hJ.eval 6 (d := 12) (hn 6 (by simp)) rfl rfl rfl
            have hsz := Lib.hid hJ.size
            clear hed hJ hn
            refine opStep_yes rfl (d := 12) rfl (by rw [hsz.out]; rfl) hA12 ?_
            clear hsz
            unfold Oper.wp execOp
            have hN15 := evalN hA15
            have hN18 := evalN hA18
            go_simp
            refine (CL.out W hS).mono ?_
            rintro e W' ⟨rfl, hb⟩
            have hS2 := hS.trans (hb.mono hS.size)
            dsimp only
            exact hK W' hS2
          refine sure_cons ?_ ?_
          · intro L ac W K hed hJ hS hK
            have hn := needs_spec (l := [6, 13]) (by kernel_rfl) hed
            have hA19 := hJ.eval 13 (d := 19) (hn 13 (by simp)) rfl rfl rfl
            have hA12 := hJ.eval 6 (d := 12) (hn 6 (by simp)) rfl rfl rfl
            have hsz := Lib.hid hJ.size
            clear hed hJ hn
            refine opStep_yes rfl (d := 12) rfl (by rw [hsz.out]; rfl) hA12 ?_
            clear hsz
            unfold Oper.wp execOp
            have hN19 := evalN hA19
            go_simp
            exact hK _ hS
          refine sure_cons ?_ ?_
          · intro L ac W K hed hJ hS hK
            have hn := needs_spec (l := [6, 14]) (by kernel_rfl) hed
            have hA12 := hJ.eval 6 (d := 12) (hn 6 (by simp)) rfl rfl rfl
            have hA20 := hJ.eval 14 (d := 20) (hn 14 (by simp)) rfl rfl rfl
            clear hed hJ hn
            refine opStep_of rfl ?_
            unfold Oper.wp execOp
            have hN12 := evalN hA12
            have hN20 := evalN hA20
            go_simp
            exact hK _ hS
          refine sure_cons ?_ ?_
          · intro L ac W K hed hJ hS hK
            have hn := needs_spec (l := [15]) (by kernel_rfl) hed
            have hA21 := hJ.eval 15 (d := 21) (hn 15 (by simp)) rfl rfl rfl
            clear hed hJ hn
            refine opStep_of rfl ?_
            unfold Oper.wp execOp
            have hN21 := evalN hA21
            go_simp
            exact hK _ hS
          refine sure_cons ?_ ?_
          · intro L ac W K hed hJ hS hK
            have hn := needs_spec (l := [16]) (by kernel_rfl) hed
            have hA2 : ac.eval (.tmp 2) = .pointer (some ⟨gx, 0, none⟩) := hJ.eval_old 2 (by kernel_rfl)
            have hA22 := hJ.eval 16 (d := 22) (hn 16 (by simp)) rfl rfl rfl
            have hsz := Lib.hid hJ.size
            clear hed hJ hn
            refine opStep_yes rfl (d := 22) rfl (by rw [hsz.out]; rfl) hA22 ?_
            clear hsz
            refine oper_load_at 30 (.tmp 2) rfl ⟨gx, 0, none⟩ hA2 (mcL a m) _ (HLM.out W hS) Tryz.underlying30 rfl MI.out ?_
            exact hK _ hS
          refine sure_cons ?_ ?_
          · intro L ac W K hed hJ hS hK
            have hn := needs_spec (l := [16, 17]) (by kernel_rfl) hed
            have hA23 := hJ.eval 17 (d := 23) (hn 17 (by simp)) rfl rfl rfl
            have hA22 := hJ.eval 16 (d := 22) (hn 16 (by simp)) rfl rfl rfl
            have hsz := Lib.hid hJ.size
            clear hed hJ hn
            refine opStep_yes rfl (d := 22) rfl (by rw [hsz.out]; rfl) hA22 ?_
            clear hsz
            unfold Oper.wp execOp
            have hN23 := evalN hA23
            go_simp
            refine (CR.out W hS).mono ?_
            rintro e W' ⟨rfl, hb⟩
            have hS2 := hS.trans (hb.mono hS.size)
            dsimp only
            exact hK W' hS2
          refine sure_cons ?_ ?_
          · intro L ac W K hed hJ hS hK
            have hn := needs_spec (l := [16]) (by kernel_rfl) hed
            have hA3 : ac.eval (.tmp 3) = .pointer (some ⟨gx + 1, 0, none⟩) := hJ.eval_old 3 (by kernel_rfl)
            have hA22 := hJ.eval 16 (d := 22) (hn 16 (by simp)) rfl rfl rfl
            have hsz := Lib.hid hJ.size
            clear hed hJ hn
            refine opStep_yes rfl (d := 22) rfl (by rw [hsz.out]; rfl) hA22 ?_
            clear hsz
            refine oper_load_at 30 (.tmp 3) rfl ⟨gx + 1, 0, none⟩ hA3 (mcL b n) _ (HLN.out W hS) Tryz.underlying30 rfl NI.out ?_
            exact hK _ hS
          refine sure_cons ?_ ?_
          · intro L ac W K hed hJ hS hK
            have hn := needs_spec (l := [16, 19]) (by kernel_rfl) hed
            have hA25 := hJ.eval 19 (d := 25) (hn 19 (by simp)) rfl rfl rfl
            have hA22 := hJ.eval 16 (d := 22) (hn 16 (by simp)) rfl rfl rfl
            have hsz := Lib.hid hJ.size
            clear hed hJ hn
            refine opStep_yes rfl (d := 22) rfl (by rw [hsz.out]; rfl) hA22 ?_
            clear hsz
            unfold Oper.wp execOp
            have hN25 := evalN hA25
            go_simp
            refine (CQ.out W hS).mono ?_
            rintro e W' ⟨rfl, hb⟩
            have hS2 := hS.trans (hb.mono hS.size)
            dsimp only
            exact hK W' hS2
          refine sure_cons ?_ ?_
          · intro L ac W K hed hJ hS hK
            have hn := needs_spec (l := [16, 18, 20]) (by kernel_rfl) hed
            have hA24 := hJ.eval 18 (d := 24) (hn 18 (by simp)) rfl rfl rfl
            have hA26 := hJ.eval 20 (d := 26) (hn 20 (by simp)) rfl rfl rfl
            have hA22 := hJ.eval 16 (d := 22) (hn 16 (by simp)) rfl rfl rfl
            have hsz := Lib.hid hJ.size
            clear hed hJ hn
            refine opStep_yes rfl (d := 22) rfl (by rw [hsz.out]; rfl) hA22 ?_
            clear hsz
            unfold Oper.wp execOp
            have hN24 := evalN hA24
            have hN26 := evalN hA26
            go_simp
            exact hK _ hS
          refine sure_cons ?_ ?_
          · intro L ac W K hed hJ hS hK
            have hn := needs_spec (l := [16, 21]) (by kernel_rfl) hed
            have hA22 := hJ.eval 16 (d := 22) (hn 16 (by simp)) rfl rfl rfl
            have hA27 := hJ.eval 21 (d := 27) (hn 21 (by simp)) rfl rfl rfl
            clear hed hJ hn
            refine opStep_of rfl ?_
            unfold Oper.wp execOp
            have hN22 := evalN hA22
            have hN27 := evalN hA27
            go_simp
            exact hK _ hS
          refine sure_nil ?_
          intro W hS
          simp only [putAll, Act.put, List.setIfInBounds_toArray, List.set_cons_zero, List.set_cons_succ]
          have HV := Lib.hid hS
          clear hS
          go_wp2_with fail
          go_ret
          exact ⟨by rw [decide_eq_false (fun e => HNE.out e.2.2)]; rfl, by rw [HGX.out]; exact HW.out.trans (HV.out.mono (by omega))⟩
    · have CL : Hid (∀ W, Below w1.heap.size w1 W → Calls Tryz.prog 32 #[.slice a.L m.blocks.length a.cL, .slice b.L n.blocks.length b.cL] W fun e w' => e = .returned (.bool false) ∧ Below W.heap.size W w') := Lib.hid fun W hS => by
        have h := texts32_any W a.L b.L a.cL b.cL m.blocks n.blocks (HMA.out W hS).L (HMB.out W hS).L (by omega) (by omega)
        rw [decide_eq_false h2] at h
        exact h
      have H2 := Lib.hid h2
      clear h2 f1 f2 f3 f4 g1 g2 g3 g4
      refine' wp_region_sure (by kernel_rfl) (fun W => Below w1.heap.size w1 W) 23 [_, _, _, _, _, _, _, _, _, _, _, _, _, _, _, _, _, undef, undef, undef, undef, undef, _] [some 6, some 7, some 8, some 9, some 10, some 11, some 12, some 13, some 14, some 15, some 16, some 17, some 18, some 19, some 20, some 21, some 22, some 23, some 24, some 25, some 26, some 27, some 28] (by kernel_rfl) (by kernel_rfl) (by kernel_rfl) (by kernel_rfl) rfl (Below.refl _ _).drew ?hsn2
      case hsn2 =>
        refine sure_cons ?_ ?_
        · intro L ac W K hed hJ hS hK
          have hA2 : ac.eval (.tmp 2) = .pointer (some ⟨gx, 0, none⟩) := hJ.eval_old 2 (by kernel_rfl)
          clear hed hJ
          refine opStep_of rfl ?_
          unfold Oper.wp execOp
          have hN2 := evalN hA2
          go_simp
          exact hK _ hS
        refine sure_cons ?_ ?_
        · intro L ac W K hed hJ hS hK
          have hn := needs_spec (l := [0]) (by kernel_rfl) hed
          have hA6 := hJ.eval 0 (d := 6) (hn 0 (by simp)) rfl rfl rfl
          clear hed hJ hn
          refine opStep_of rfl ?_
          have cc : W.cell? ⟨gx, 4, none⟩ = some (.slice a.F m.frames.length a.cF) := (HC.out W hS).cell 4
          unfold Oper.wp execOp
          have hN6 := evalN hA6
          go_simp
          exact hK _ hS
        refine sure_cons ?_ ?_
        · intro L ac W K hed hJ hS hK
          have hA3 : ac.eval (.tmp 3) = .pointer (some ⟨gx + 1, 0, none⟩) := hJ.eval_old 3 (by kernel_rfl)
          clear hed hJ
          refine opStep_of rfl ?_
          unfold Oper.wp execOp
          have hN3 := evalN hA3
          go_simp
          exact hK _ hS
        refine sure_cons ?_ ?_
        · intro L ac W K hed hJ hS hK
          have hn := needs_spec (l := [2]) (by kernel_rfl) hed
          have hA8 := hJ.eval 2 (d := 8) (hn 2 (by simp)) rfl rfl rfl
          clear hed hJ hn
          refine opStep_of rfl ?_
          have cc : W.cell? ⟨gx + 1, 4, none⟩ = some (.slice b.F n.frames.length b.cF) := (HD.out W hS).cell 4
          unfold Oper.wp execOp
          have hN8 := evalN hA8
          go_simp
          exact hK _ hS
        refine sure_cons ?_ ?_
        · intro L ac W K hed hJ hS hK
          have hn := needs_spec (l := [1, 3]) (by kernel_rfl) hed
          have hA7 := hJ.eval 1 (d := 7) (hn 1 (by simp)) rfl rfl rfl
          have hA9 := hJ.eval 3 (d := 9) (hn 3 (by simp)) rfl rfl rfl
          clear hed hJ hn
          refine opStep_of rfl ?_
          unfold Oper.wp execOp
          have hN7 := evalN hA7
          have hN9 := evalN hA9
          go_simp
          refine (CF.out W hS).mono ?_
          rintro e W' ⟨rfl, hb⟩
          have hS2 := hS.trans (hb.mono hS.size)
          dsimp only
          exact hK W' hS2
        refine sure_cons ?_ ?_
        · intro L ac W K hed hJ hS hK
          have hn := needs_spec (l := [4]) (by kernel_rfl) hed
          have hA10 := hJ.eval 4 (d := 10) (hn 4 (by simp)) rfl rfl rfl
          clear hed hJ hn
          refine opStep_of rfl ?_
          unfold Oper.wp execOp
          have hN10 := evalN hA10
          go_simp
          exact hK _ hS
        refine sure_cons ?_ ?_
        · intro L ac W K hed hJ hS hK
          have hn := needs_spec (l := [5]) (by kernel_rfl) hed
          have hA11 := hJ.eval 5 (d := 11) (hn 5 (by simp)) rfl rfl rfl
          clear hed hJ hn
          refine opStep_of rfl ?_
          unfold Oper.wp execOp
          have hN11 := evalN hA11
          go_simp
          exact hK _ hS
        refine sure_cons ?_ ?_
        · intro L ac W K hed hJ hS hK
          have hn := needs_spec (l := [6]) (by kernel_rfl) hed
          have hA2 : ac.eval (.tmp 2) = .pointer (some ⟨gx, 0, none⟩) := hJ.eval_old 2 (by kernel_rfl)
          have hA12 := hJ.eval 6 (d := 12) (hn 6 (by simp)) rfl rfl rfl
          have hsz := Lib.hid hJ.size
          clear hed hJ hn
          refine opStep_yes rfl (d := 12) rfl (by rw [hsz.out]; rfl) hA12 ?_
          clear hsz
          unfold Oper.wp execOp
          have hN2 := evalN hA2
          go_simp
          exact hK _ hS
        refine sure_cons ?_ ?_
        · intro L ac W K hed hJ hS hK
          have hn := needs_spec (l := [6, 7]) (by kernel_rfl) hed
          have hA13 := hJ.eval 7 (d := 13) (hn 7 (by simp)) rfl rfl rfl
          have hA12 := hJ.eval 6 (d := 12) (hn 6 (by simp)) rfl rfl rfl
          have hsz := Lib.hid hJ.size
          clear hed hJ hn
          refine opStep_yes rfl (d := 12) rfl (by rw [hsz.out]; rfl) hA12 ?_
          clear hsz
          unfold Oper.wp execOp
          have hN13 := evalN hA13
          go_simp
          exact hK _ hS
        refine sure_cons ?_ ?_
        · intro L ac W K hed hJ hS hK
          have hn := needs_spec (l := [6, 8]) (by kernel_rfl) hed
          have hA14 := hJ.eval 8 (d := 14) (hn 8 (by simp)) rfl rfl rfl
          have hA12 := hJ.eval 6 (d := 12) (hn 6 (by simp)) rfl rfl rfl
          have hsz := Lib.hid hJ.size
          clear hed hJ hn
          refine opStep_yes rfl (d := 12) rfl (by rw [hsz.out]; rfl) hA12 ?_
          clear hsz
          have cc : W.cell? ⟨gx, 13, none⟩ = some (.slice a.L m.blocks.length a.cL) := (HC.out W hS).cell 13
          unfold Oper.wp execOp
          have hN14 := evalN hA14
          go_simp
          exact hK _ hS
        refine sure_cons ?_ ?_
        · intro L ac W K hed hJ hS hK
          have hn := needs_spec (l := [6]) (by kernel_rfl) hed
          have hA3 : ac.eval (.tmp 3) = .pointer (some ⟨gx + 1, 0, none⟩) := hJ.eval_old 3 (by kernel_rfl)
          have hA12 := hJ.eval 6 (d := 12) (hn 6 (by simp)) rfl rfl rfl
          have hsz := Lib.hid hJ.size
          clear hed hJ hn
          refine opStep_yes rfl (d := 12) rfl (by rw [hsz.out]; rfl) hA12 ?_
          clear hsz
          unfold Oper.wp execOp
          have hN3 := evalN hA3
          go_simp
          exact hK _ hS
        refine sure_cons ?_ ?_
        · intro L ac W K hed hJ hS hK
          have hn := needs_spec (l := [6, 10]) (by kernel_rfl) hed
          have hA16 := hJ.eval 10 (d := 16) (hn 10 (by simp)) rfl rfl rfl
          have hA12 := hJ.eval 6 (d := 12) (hn 6 (by simp)) rfl rfl rfl
          have hsz := Lib.hid hJ.size
          clear hed hJ hn
          refine opStep_yes rfl (d := 12) rfl (by rw [hsz.out]; rfl) hA12 ?_
          clear hsz
          unfold Oper.wp execOp
          have hN16 := evalN hA16
          go_simp
          exact hK _ hS
        refine sure_cons ?_ ?_
        · intro L ac W K hed hJ hS hK
          have hn := needs_spec (l := [6, 11]) (by kernel_rfl) hed
          have hA17 := hJ.eval 11 (d := 17) (hn 11 (by simp)) rfl rfl rfl
          have hA12 := hJ.eval 6 (d := 12) (hn 6 (by simp)) rfl rfl rfl
          have hsz := Lib.hid hJ.size
          clear hed hJ hn
          refine opStep_yes rfl (d := 12) rfl (by rw [hsz.out]; rfl) hA12 ?_
          clear hsz
          have cc : W.cell? ⟨gx + 1, 13, none⟩ = some (.slice b.L n.blocks.length b.cL) := (HD.out W hS).cell 13
          unfold Oper.wp execOp
          have hN17 := evalN hA17
          go_simp
          exact hK _ hS
        refine sure_cons ?_ ?_
        · intro L ac W K hed hJ hS hK
          have hn := needs_spec (l := [6, 9, 12]) (by kernel_rfl) hed
          have hA15 := hJ.eval 9 (d := 15) (hn 9 (by simp)) rfl rfl rfl
          have hA18 := hJ.eval 12 (d := 18) (hn 12 (by simp)) rfl rfl rfl
          have hA12 := hJ.eval 6 (d := 12) (hn 6 (by simp)) rfl rfl rfl
          have hsz := Lib.hid hJ.size
          clear hed hJ hn
          refine opStep_yes rfl (d := 12) rfl (by rw [hsz.out]; rfl) hA12 ?_
          clear hsz
          unfold Oper.wp execOp
          have hN15 := evalN hA15
          have hN18 := evalN hA18
          go_simp
          refine (CL.out W hS).mono ?_
          rintro e W' ⟨rfl, hb⟩
          have hS2 := hS.trans (hb.mono hS.size)
          dsimp only
          exact hK W' hS2
        refine sure_cons ?_ ?_
        · intro L ac W K hed hJ hS hK
          have hn := needs_spec (l := [6, 13]) (by kernel_rfl) hed
          have hA19 := hJ.eval 13 (d := 19) (hn 13 (by simp)) rfl rfl rfl
          have hA12 := hJ.eval 6 (d := 12) (hn 6 (by simp)) rfl rfl rfl
          have hsz := Lib.hid hJ.size
          clear hed hJ hn
          refine opStep_yes rfl (d := 12) rfl (by rw [hsz.out]; rfl) hA12 ?_
          clear hsz
          unfold Oper.wp execOp
          have hN19 := evalN hA19
          go_simp
          exact hK _ hS
        refine sure_cons ?_ ?_
        · intro L ac W K hed hJ hS hK
          have hn := needs_spec (l := [6, 14]) (by kernel_rfl) hed
          have hA12 := hJ.eval 6 (d := 12) (hn 6 (by simp)) rfl rfl rfl
          have hA20 := hJ.eval 14 (d := 20) (hn 14 (by simp)) rfl rfl rfl
          clear hed hJ hn
          refine opStep_of rfl ?_
          unfold Oper.wp execOp
          have hN12 := evalN hA12
          have hN20 := evalN hA20
          go_simp
          exact hK _ hS
        refine sure_cons ?_ ?_
        · intro L ac W K hed hJ hS hK
          have hn := needs_spec (l := [15]) (by kernel_rfl) hed
          have hA21 := hJ.eval 15 (d := 21) (hn 15 (by simp)) rfl rfl rfl
          clear hed hJ hn
          refine opStep_of rfl ?_
          unfold Oper.wp execOp
          have hN21 := evalN hA21
          go_simp
          exact hK _ hS
        refine sure_cons ?_ ?_
        · intro L ac W K hed hJ hS hK
          have hn := needs_spec (l := [16]) (by kernel_rfl) hed
          have hA22 := hJ.eval 16 (d := 22) (hn 16 (by simp)) rfl rfl rfl
          have hsz := Lib.hid hJ.size
          clear hed hJ hn
          refine opStep_no rfl (d := 22) rfl (by rw [hsz.out]; rfl) hA22 rfl ?_
          exact hK _ hS
        refine sure_cons ?_ ?_
        · intro L ac W K hed hJ hS hK
          have hn := needs_spec (l := [16]) (by kernel_rfl) hed
          have hA22 := hJ.eval 16 (d := 22) (hn 16 (by simp)) rfl rfl rfl
          have hsz := Lib.hid hJ.size
          clear hed hJ hn
          refine opStep_no rfl (d := 22) rfl (by rw [hsz.out]; rfl) hA22 rfl ?_
          exact hK _ hS
        refine sure_cons ?_ ?_
        · intro L ac W K hed hJ hS hK
          have hn := needs_spec (l := [16]) (by kernel_rfl) hed
          have hA22 := hJ.eval 16 (d := 22) (hn 16 (by simp)) rfl rfl rfl
          have hsz := Lib.hid hJ.size
          clear hed hJ hn
          refine opStep_no rfl (d := 22) rfl (by rw [hsz.out]; rfl) hA22 rfl ?_
          exact hK _ hS
        refine sure_cons ?_ ?_
        · intro L ac W K hed hJ hS hK
          have hn := needs_spec (l := [16]) (by kernel_rfl) hed
          have hA22 := hJ.eval 16 (d := 22) (hn 16 (by simp)) rfl rfl rfl
          have hsz := Lib.hid hJ.size
          clear hed hJ hn
          refine opStep_no rfl (d := 22) rfl (by rw [hsz.out]; rfl) hA22 rfl ?_
          exact hK _ hS
        refine sure_cons ?_ ?_
        · intro L ac W K hed hJ hS hK
          have hn := needs_spec (l := [16]) (by kernel_rfl) hed
          have hA22 := hJ.eval 16 (d := 22) (hn 16 (by simp)) rfl rfl rfl
          have hsz := Lib.hid hJ.size
          clear hed hJ hn
          refine opStep_no rfl (d := 22) rfl (by rw [hsz.out]; rfl) hA22 rfl ?_
          exact hK _ hS
        refine sure_cons ?_ ?_
        · intro L ac W K hed hJ hS hK
          have hn := needs_spec (l := [16, 21]) (by kernel_rfl) hed
          have hA22 := hJ.eval 16 (d := 22) (hn 16 (by simp)) rfl rfl rfl
          have hA27 := hJ.eval 21 (d := 27) (hn 21 (by simp)) rfl rfl rfl
          clear hed hJ hn
          refine opStep_of rfl ?_
          unfold Oper.wp execOp
          have hN22 := evalN hA22
          have hN27 := evalN hA27
          go_simp
          exact hK _ hS
        refine sure_nil ?_
        intro W hS
        simp only [putAll, Act.put, List.setIfInBounds_toArray, List.set_cons_zero, List.set_cons_succ]
        have HV := Lib.hid hS
        clear hS
        go_wp2_with fail
        go_ret
        exact ⟨by rw [decide_eq_false (fun e => H2.out e.2.1)]; rfl, by rw [HGX.out]; exact HW.out.trans (HV.out.mono (by omega))⟩
  · have CF : Hid (∀ W, Below w1.heap.size w1 W → Calls Tryz.prog 32 #[.slice a.F m.frames.length a.cF, .slice b.F n.frames.length b.cF] W fun e w' => e = .returned (.bool false) ∧ Below W.heap.size W w') := Lib.hid fun W hS => by
      have h := texts32_any W a.F b.F a.cF b.cF m.frames n.frames (HMA.out W hS).F (HMB.out W hS).F (by omega) (by omega)
      rw [decide_eq_false h1] at h
      exact h
    have H1 := Lib.hid h1
    clear h1 f1 f2 f3 f4 g1 g2 g3 g4
    refine' wp_region_sure (by kernel_rfl) (fun W => Below w1.heap.size w1 W) 23 [_, _, _, _, _, _, _, undef, undef, undef, undef, undef, undef, undef, undef, _, _, undef, undef, undef, undef, undef, _] [some 6, some 7, some 8, some 9, some 10, some 11, some 12, some 13, some 14, some 15, some 16, some 17, some 18, some 19, some 20, some 21, some 22, some 23, some 24, some 25, some 26, some 27, some 28] (by kernel_rfl) (by kernel_rfl) (by kernel_rfl) (by kernel_rfl) rfl (Below.refl _ _).drew ?hsn1
    case hsn1 =>
      refine sure_cons ?_ ?_
      · intro L ac W K hed hJ hS hK
        have hA2 : ac.eval (.tmp 2) = .pointer (some ⟨gx, 0, none⟩) := hJ.eval_old 2 (by kernel_rfl)
        clear hed hJ
        refine opStep_of rfl ?_
        unfold Oper.wp execOp
        have hN2 := evalN hA2
        go_simp
        exact hK _ hS
      refine sure_cons ?_ ?_
      · intro L ac W K hed hJ hS hK
        have hn := needs_spec (l := [0]) (by kernel_rfl) hed
        have hA6 := hJ.eval 0 (d := 6) (hn 0 (by simp)) rfl rfl rfl
        clear hed hJ hn
        refine opStep_of rfl ?_
        have cc : W.cell? ⟨gx, 4, none⟩ = some (.slice a.F m.frames.length a.cF) := (HC.out W hS).cell 4
        unfold Oper.wp execOp
        have hN6 := evalN hA6
        go_simp
        exact hK _ hS
      refine sure_cons ?_ ?_
      · intro L ac W K hed hJ hS hK
        have hA3 : ac.eval (.tmp 3) = .pointer (some ⟨gx + 1, 0, none⟩) := hJ.eval_old 3 (by kernel_rfl)
        clear hed hJ
        refine opStep_of rfl ?_
        unfold Oper.wp execOp
        have hN3 := evalN hA3
        go_simp
        exact hK _ hS
      refine sure_cons ?_ ?_
      · intro L ac W K hed hJ hS hK
        have hn := needs_spec (l := [2]) (by kernel_rfl) hed
        have hA8 := hJ.eval 2 (d := 8) (hn 2 (by simp)) rfl rfl rfl
        clear hed hJ hn
        refine opStep_of rfl ?_
        have cc : W.cell? ⟨gx + 1, 4, none⟩ = some (.slice b.F n.frames.length b.cF) := (HD.out W hS).cell 4
        unfold Oper.wp execOp
        have hN8 := evalN hA8
        go_simp
        exact hK _ hS
      refine sure_cons ?_ ?_
      · intro L ac W K hed hJ hS hK
        have hn := needs_spec (l := [1, 3]) (by kernel_rfl) hed
        have hA7 := hJ.eval 1 (d := 7) (hn 1 (by simp)) rfl rfl rfl
        have hA9 := hJ.eval 3 (d := 9) (hn 3 (by simp)) rfl rfl rfl
        clear hed hJ hn
        refine opStep_of rfl ?_
        unfold Oper.wp execOp
        have hN7 := evalN hA7
        have hN9 := evalN hA9
        go_simp
        refine (CF.out W hS).mono ?_
        rintro e W' ⟨rfl, hb⟩
        have hS2 := hS.trans (hb.mono hS.size)
        dsimp only
        exact hK W' hS2
      refine sure_cons ?_ ?_
      · intro L ac W K hed hJ hS hK
        have hn := needs_spec (l := [4]) (by kernel_rfl) hed
        have hA10 := hJ.eval 4 (d := 10) (hn 4 (by simp)) rfl rfl rfl
        clear hed hJ hn
        refine opStep_of rfl ?_
        unfold Oper.wp execOp
        have hN10 := evalN hA10
        go_simp
        exact hK _ hS
      refine sure_cons ?_ ?_
      · intro L ac W K hed hJ hS hK
        have hn := needs_spec (l := [5]) (by kernel_rfl) hed
        have hA11 := hJ.eval 5 (d := 11) (hn 5 (by simp)) rfl rfl rfl
        clear hed hJ hn
        refine opStep_of rfl ?_
        unfold Oper.wp execOp
        have hN11 := evalN hA11
        go_simp
        exact hK _ hS
      refine sure_cons ?_ ?_
      · intro L ac W K hed hJ hS hK
        have hn := needs_spec (l := [6]) (by kernel_rfl) hed
        have hA12 := hJ.eval 6 (d := 12) (hn 6 (by simp)) rfl rfl rfl
        have hsz := Lib.hid hJ.size
        clear hed hJ hn
        refine opStep_no rfl (d := 12) rfl (by rw [hsz.out]; rfl) hA12 rfl ?_
        exact hK _ hS
      refine sure_cons ?_ ?_
      · intro L ac W K hed hJ hS hK
        have hn := needs_spec (l := [6]) (by kernel_rfl) hed
        have hA12 := hJ.eval 6 (d := 12) (hn 6 (by simp)) rfl rfl rfl
        have hsz := Lib.hid hJ.size
        clear hed hJ hn
        refine opStep_no rfl (d := 12) rfl (by rw [hsz.out]; rfl) hA12 rfl ?_
        exact hK _ hS
      refine sure_cons ?_ ?_
      · intro L ac W K hed hJ hS hK
        have hn := needs_spec (l := [6]) (by kernel_rfl) hed
        have hA12 := hJ.eval 6 (d := 12) (hn 6 (by simp)) rfl rfl rfl
        have hsz := Lib.hid hJ.size
        clear hed hJ hn
        refine opStep_no rfl (d := 12) rfl (by rw [hsz.out]; rfl) hA12 rfl ?_
        exact hK _ hS
      refine sure_cons ?_ ?_
      · intro L ac W K hed hJ hS hK
        have hn := needs_spec (l := [6]) (by kernel_rfl) hed
        have hA12 := hJ.eval 6 (d := 12) (hn 6 (by simp)) rfl rfl rfl
        have hsz := Lib.hid hJ.size
        clear hed hJ hn
        refine opStep_no rfl (d := 12) rfl (by rw [hsz.out]; rfl) hA12 rfl ?_
        exact hK _ hS
      refine sure_cons ?_ ?_
      · intro L ac W K hed hJ hS hK
        have hn := needs_spec (l := [6]) (by kernel_rfl) hed
        have hA12 := hJ.eval 6 (d := 12) (hn 6 (by simp)) rfl rfl rfl
        have hsz := Lib.hid hJ.size
        clear hed hJ hn
        refine opStep_no rfl (d := 12) rfl (by rw [hsz.out]; rfl) hA12 rfl ?_
        exact hK _ hS
      refine sure_cons ?_ ?_
      · intro L ac W K hed hJ hS hK
        have hn := needs_spec (l := [6]) (by kernel_rfl) hed
        have hA12 := hJ.eval 6 (d := 12) (hn 6 (by simp)) rfl rfl rfl
        have hsz := Lib.hid hJ.size
        clear hed hJ hn
        refine opStep_no rfl (d := 12) rfl (by rw [hsz.out]; rfl) hA12 rfl ?_
        exact hK _ hS
      refine sure_cons ?_ ?_
      · intro L ac W K hed hJ hS hK
        have hn := needs_spec (l := [6]) (by kernel_rfl) hed
        have hA12 := hJ.eval 6 (d := 12) (hn 6 (by simp)) rfl rfl rfl
        have hsz := Lib.hid hJ.size
        clear hed hJ hn
        refine opStep_no rfl (d := 12) rfl (by rw [hsz.out]; rfl) hA12 rfl ?_
        exact hK _ hS
      refine sure_cons ?_ ?_
      · intro L ac W K hed hJ hS hK
        have hn := needs_spec (l := [6]) (by kernel_rfl) hed
        have hA12 := hJ.eval 6 (d := 12) (hn 6 (by simp)) rfl rfl rfl
        have hsz := Lib.hid hJ.size
        clear hed hJ hn
        refine opStep_no rfl (d := 12) rfl (by rw [hsz.out]; rfl) hA12 rfl ?_
        exact hK _ hS
      refine sure_cons ?_ ?_
      · intro L ac W K hed hJ hS hK
        have hn := needs_spec (l := [6, 14]) (by kernel_rfl) hed
        have hA12 := hJ.eval 6 (d := 12) (hn 6 (by simp)) rfl rfl rfl
        have hA20 := hJ.eval 14 (d := 20) (hn 14 (by simp)) rfl rfl rfl
        clear hed hJ hn
        refine opStep_of rfl ?_
        unfold Oper.wp execOp
        have hN12 := evalN hA12
        have hN20 := evalN hA20
        go_simp
        exact hK _ hS
      refine sure_cons ?_ ?_
      · intro L ac W K hed hJ hS hK
        have hn := needs_spec (l := [15]) (by kernel_rfl) hed
        have hA21 := hJ.eval 15 (d := 21) (hn 15 (by simp)) rfl rfl rfl
        clear hed hJ hn
        refine opStep_of rfl ?_
        unfold Oper.wp execOp
        have hN21 := evalN hA21
        go_simp
        exact hK _ hS
      refine sure_cons ?_ ?_
      · intro L ac W K hed hJ hS hK
        have hn := needs_spec (l := [16]) (by kernel_rfl) hed
        have hA22 := hJ.eval 16 (d := 22) (hn 16 (by simp)) rfl rfl rfl
        have hsz := Lib.hid hJ.size
        clear hed hJ hn
        refine opStep_no rfl (d := 22) rfl (by rw [hsz.out]; rfl) hA22 rfl ?_
        exact hK _ hS
      refine sure_cons ?_ ?_
      · intro L ac W K hed hJ hS hK
        have hn := needs_spec (l := [16]) (by kernel_rfl) hed
        have hA22 := hJ.eval 16 (d := 22) (hn 16 (by simp)) rfl rfl rfl
        have hsz := Lib.hid hJ.size
        clear hed hJ hn
        refine opStep_no rfl (d := 22) rfl (by rw [hsz.out]; rfl) hA22 rfl ?_
        exact hK _ hS
      refine sure_cons ?_ ?_
      · intro L ac W K hed hJ hS hK
        have hn := needs_spec (l := [16]) (by kernel_rfl) hed
        have hA22 := hJ.eval 16 (d := 22) (hn 16 (by simp)) rfl rfl rfl
        have hsz := Lib.hid hJ.size
        clear hed hJ hn
        refine opStep_no rfl (d := 22) rfl (by rw [hsz.out]; rfl) hA22 rfl ?_
        exact hK _ hS
      refine sure_cons ?_ ?_
      · intro L ac W K hed hJ hS hK
        have hn := needs_spec (l := [16]) (by kernel_rfl) hed
        have hA22 := hJ.eval 16 (d := 22) (hn 16 (by simp)) rfl rfl rfl
        have hsz := Lib.hid hJ.size
        clear hed hJ hn
        refine opStep_no rfl (d := 22) rfl (by rw [hsz.out]; rfl) hA22 rfl ?_
        exact hK _ hS
      refine sure_cons ?_ ?_
      · intro L ac W K hed hJ hS hK
        have hn := needs_spec (l := [16]) (by kernel_rfl) hed
        have hA22 := hJ.eval 16 (d := 22) (hn 16 (by simp)) rfl rfl rfl
        have hsz := Lib.hid hJ.size
        clear hed hJ hn
        refine opStep_no rfl (d := 22) rfl (by rw [hsz.out]; rfl) hA22 rfl ?_
        exact hK _ hS
      refine sure_cons ?_ ?_
      · intro L ac W K hed hJ hS hK
        have hn := needs_spec (l := [16, 21]) (by kernel_rfl) hed
        have hA22 := hJ.eval 16 (d := 22) (hn 16 (by simp)) rfl rfl rfl
        have hA27 := hJ.eval 21 (d := 27) (hn 21 (by simp)) rfl rfl rfl
        clear hed hJ hn
        refine opStep_of rfl ?_
        unfold Oper.wp execOp
        have hN22 := evalN hA22
        have hN27 := evalN hA27
        go_simp
        exact hK _ hS
      refine sure_nil ?_
      intro W hS
      simp only [putAll, Act.put, List.setIfInBounds_toArray, List.set_cons_zero, List.set_cons_succ]
      have HV := Lib.hid hS
      clear hS
      go_wp2_with fail
      go_ret
      exact ⟨by rw [decide_eq_false (fun e => H1.out e.1)]; rfl, by rw [HGX.out]; exact HW.out.trans (HV.out.mono (by omega))⟩
end Go.Proofs.YtmmfcjkabpffeaaGreatDoor
