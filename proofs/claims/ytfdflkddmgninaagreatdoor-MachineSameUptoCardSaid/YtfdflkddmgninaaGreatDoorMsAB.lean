/-
  Structs held against each other: processes, pipes, writes, what of a machine isn't a list. (Printed by gen_msa.py.)
-/
import Derived.Test.YtfdflkddmgninaaGreatDoorMcA
import Derived.Test.YtfdflkddmgninaaGreatDoorSureA
import Derived.DeepKeys
namespace Go.Proofs.YtfdflkddmgninaaGreatDoor
open Go.RowKit

theorem list16' {α : Type} : ∀ l : List α, l.length = 16 → ∃ x0 x1 x2 x3 x4 x5 x6 x7 x8 x9 x10 x11 x12 x13 x14 x15, l = [x0, x1, x2, x3, x4, x5, x6, x7, x8, x9, x10, x11, x12, x13, x14, x15]
  | [x0, x1, x2, x3, x4, x5, x6, x7, x8, x9, x10, x11, x12, x13, x14, x15], _ => ⟨x0, x1, x2, x3, x4, x5, x6, x7, x8, x9, x10, x11, x12, x13, x14, x15, rfl⟩
theorem list8' {α : Type} : ∀ l : List α, l.length = 8 → ∃ x0 x1 x2 x3 x4 x5 x6 x7, l = [x0, x1, x2, x3, x4, x5, x6, x7]
  | [x0, x1, x2, x3, x4, x5, x6, x7], _ => ⟨x0, x1, x2, x3, x4, x5, x6, x7, rfl⟩
/-- the literal of a cell -/
def litOf : Value → Lit
  | .int k n => .int k n
  | .bool b => .bool b
  | .string s => .string s.data.toList
  | _ => .bool false
def isKey : Value → Bool
  | .int _ _ => true
  | .bool _ => true
  | _ => false
theorem litOf_inj : ∀ {a b : Value}, isKey a = true → isKey b = true → litOf a = litOf b → a = b := by
  intro a b ha hb h
  cases a <;> cases b <;> simp [isKey, litOf] at ha hb h ⊢ <;> first | exact h | (cases h)
theorem mapLit_inj : ∀ {a b : List Value}, (∀ v ∈ a, isKey v = true) → (∀ v ∈ b, isKey v = true) → a.map litOf = b.map litOf → a = b
  | [], [], _, _, _ => rfl
  | [], _ :: _, _, _, h => by simp at h
  | _ :: _, [], _, _, h => by simp at h
  | x :: a, y :: b, ha, hb, h => by
    simp only [List.map_cons, List.cons.injEq] at h
    rw [litOf_inj (ha x (by simp)) (hb y (by simp)) h.1, mapLit_inj (fun v hv => ha v (by simp [hv])) (fun v hv => hb v (by simp [hv])) h.2]
/-- the literals that a key's type's cells have -/
def KL (d : Nat) (t : TypeId) (cs : List Value) : Prop := Tryz.prog.keyLits d t cs = some (cs.map litOf)
def KLs (d : Nat) (cs : List Value) : List Field → Prop
  | [] => True
  | f :: r => KL d f.type ((cs.drop f.offset).take (Tryz.prog.cellsOf f.type)) ∧ KLs d cs r
theorem mapM_of {α β : Type} (f : α → Option β) (g : α → β) : ∀ l : List α, (∀ x ∈ l, f x = some (g x)) → l.mapM f = some (l.map g)
  | [], _ => rfl
  | a :: l, h => by
    rw [List.mapM_cons, h a (by simp), mapM_of f g l fun x hx => h x (by simp [hx])]; rfl
theorem kls_all {d : Nat} {cs : List Value} : ∀ {l : List Field}, KLs d cs l → ∀ f ∈ l, KL d f.type ((cs.drop f.offset).take (Tryz.prog.cellsOf f.type))
  | [], _, f, hf => by simp at hf
  | g :: l, h, f, hf => (List.mem_cons.1 hf).elim (fun e => e ▸ h.1) (kls_all h.2 f)
theorem kl_struct {d : Nat} {t : TypeId} {fs : Array Field} {cs : List Value} (hu : Tryz.prog.underlying t = some (.struct fs)) (hl : cs.length = Tryz.prog.cellsOf t) (hn : (fs.all fun f => f.name != "_") = true) (h : KLs d cs fs.toList)
    (hc : (fs.toList.map fun f => (cs.drop f.offset).take (Tryz.prog.cellsOf f.type)).flatten = cs) : KL (d + 1) t cs := by
  have h2 : (fs.toList.mapM fun f => Tryz.prog.keyLits d f.type ((cs.drop f.offset).take (Tryz.prog.cellsOf f.type))) = some ((fs.toList.map fun f => (cs.drop f.offset).take (Tryz.prog.cellsOf f.type)).map (List.map litOf)) := by
    rw [List.map_map]
    exact mapM_of _ (List.map litOf ∘ fun f : Field => (cs.drop f.offset).take (Tryz.prog.cellsOf f.type)) _ fun f hf => by have e := kls_all h f hf; unfold KL at e; rw [Function.comp_apply, e]
  unfold KL Program.keyLits
  simp only [hu]
  rw [if_pos ⟨hl, hn⟩, h2, Option.map_some, ← List.map_flatten, hc]
theorem chunks_all {k : Nat} : ∀ (n : Nat) (cs : List Value), cs.length = n * k → ((List.range n).map fun i => (cs.drop (i * k)).take k).flatten = cs
  | 0, cs, h => by simp at h; subst h; rfl
  | n + 1, cs, h => by
    have ih := chunks_all (k := k) n (cs.drop k) (by rw [List.length_drop, h, Nat.add_mul]; omega)
    rw [List.range_succ_eq_map, List.map_cons, List.map_map, List.flatten_cons, Nat.zero_mul, List.drop_zero]
    have e : ((fun i => (cs.drop (i * k)).take k) ∘ Nat.succ) = fun i => ((cs.drop k).drop (i * k)).take k := by
      funext i
      simp only [Function.comp, List.drop_drop]
      rw [show k + i * k = i.succ * k by rw [Nat.succ_mul]; omega]
    rw [e, ih, List.take_append_drop]
theorem kl_array {d n k : Nat} {t e : TypeId} {cs : List Value} (hu : Tryz.prog.underlying t = some (.array n e)) (hk : Tryz.prog.cellsOf e = k) (hl : cs.length = Tryz.prog.cellsOf t) (hnk : cs.length = n * k) (h : ∀ i, i < n → KL d e ((cs.drop (i * k)).take k)) : KL (d + 1) t cs := by
  have h2 : ((List.range n).mapM fun i => Tryz.prog.keyLits d e ((cs.drop (i * k)).take k)) = some (((List.range n).map fun i => (cs.drop (i * k)).take k).map (List.map litOf)) := by
    rw [List.map_map]
    exact mapM_of _ (List.map litOf ∘ fun i => (cs.drop (i * k)).take k) _ fun i hi => by have e := h i (List.mem_range.1 hi); unfold KL at e; rw [Function.comp_apply, e]
  unfold KL Program.keyLits
  simp only [hu, hk]
  rw [if_pos hl, h2, Option.map_some, ← List.map_flatten, chunks_all n cs hnk]
theorem kl_int {d : Nat} {t : TypeId} {k : IntKind} {n : Int} (hu : Tryz.prog.underlying t = some (.int k)) (h : (Lit.int k n).wf = true) : KL (d + 1) t [.int k n] := by
  unfold KL
  simp [Program.keyLits, hu, h, litOf]
theorem kl_bool {d : Nat} {t : TypeId} {b : Bool} (hu : Tryz.prog.underlying t = some .bool) : KL (d + 1) t [.bool b] := by
  unfold KL Program.keyLits
  simp only [hu]
  rfl
theorem wf_u32 {n : Int} (h : inU32 n) : (Lit.int .u32 n).wf = true := by
  simp only [Lit.wf, Bool.and_eq_true, decide_eq_true_eq]
  exact h
theorem wf_u64 {n : Int} (h : inU64 n) : (Lit.int .u64 n).wf = true := by
  simp only [Lit.wf, Bool.and_eq_true, decide_eq_true_eq]
  exact h
theorem wf_j8 {n : Int} (h : inJ8 n) : (Lit.int .i64 n).wf = true := by
  simp only [Lit.wf, Bool.and_eq_true, decide_eq_true_eq]
  exact h
theorem flat_chunk {α : Type} (f : α → List Value) (k : Nat) : ∀ (l : List α), (∀ x ∈ l, (f x).length = k) → ∀ i (hi : i < l.length), ((l.flatMap f).drop (i * k)).take k = f l[i]
  | [], _, i, hi => by simp at hi
  | a :: l, h, 0, _ => by
    have := h a (by simp)
    rw [Nat.zero_mul, List.drop_zero, List.flatMap_cons, List.take_append_of_le_length (by omega), List.take_of_length_le (by omega)]; rfl
  | a :: l, h, i + 1, hi => by
    have ha := h a (by simp)
    have ih := flat_chunk f k l (fun x hx => h x (by simp [hx])) i (by simpa using hi)
    rw [List.flatMap_cons, show (i + 1) * k = k + i * k by rw [Nat.add_mul]; omega, ← List.drop_drop]
    rw [show (f a ++ l.flatMap f).drop k = l.flatMap f by rw [← ha]; simp]
    exact ih
theorem kl_pg (g : Pg) (h : inJ8 g.frame) : KL 6 37 (pgCells1 g) := by
  have k0 : KL 5 4 (((pgCells1 g).drop 0).take (Tryz.prog.cellsOf 4)) := by
    rw [show Tryz.prog.cellsOf 4 = 1 by kernel_rfl]
    exact (show KL 5 4 ([.bool g.is]) from kl_bool Tryz.underlying4)
  have k1 : KL 5 4 (((pgCells1 g).drop 1).take (Tryz.prog.cellsOf 4)) := by
    rw [show Tryz.prog.cellsOf 4 = 1 by kernel_rfl]
    exact (show KL 5 4 ([.bool g.wr]) from kl_bool Tryz.underlying4)
  have k2 : KL 5 3 (((pgCells1 g).drop 2).take (Tryz.prog.cellsOf 3)) := by
    rw [show Tryz.prog.cellsOf 3 = 1 by kernel_rfl]
    exact (show KL 5 3 ([.int .i64 g.frame]) from kl_int Tryz.underlying3 (wf_j8 h))
  exact kl_struct Tryz.underlying37 (by kernel_rfl) (by kernel_rfl) ⟨k0, k1, k2, trivial⟩ (by kernel_rfl)
theorem kl_fl (g : Fl) (h : inJ8 g.kind ∧ inJ8 g.n ∧ inJ8 g.pos) : KL 6 41 (flCells1 g) := by
  have k0 : KL 5 3 (((flCells1 g).drop 0).take (Tryz.prog.cellsOf 3)) := by
    rw [show Tryz.prog.cellsOf 3 = 1 by kernel_rfl]
    exact (show KL 5 3 ([.int .i64 g.kind]) from kl_int Tryz.underlying3 (wf_j8 h.1))
  have k1 : KL 5 3 (((flCells1 g).drop 1).take (Tryz.prog.cellsOf 3)) := by
    rw [show Tryz.prog.cellsOf 3 = 1 by kernel_rfl]
    exact (show KL 5 3 ([.int .i64 g.n]) from kl_int Tryz.underlying3 (wf_j8 h.2.1))
  have k2 : KL 5 3 (((flCells1 g).drop 2).take (Tryz.prog.cellsOf 3)) := by
    rw [show Tryz.prog.cellsOf 3 = 1 by kernel_rfl]
    exact (show KL 5 3 ([.int .i64 g.pos]) from kl_int Tryz.underlying3 (wf_j8 h.2.2))
  exact kl_struct Tryz.underlying41 (by kernel_rfl) (by kernel_rfl) ⟨k0, k1, k2, trivial⟩ (by kernel_rfl)
theorem kl_regs (l : List Int) (hl : l.length = 16) (h : ∀ r ∈ l, inU32 r) : KL 6 33 (rgCells l) := by
  refine kl_array (k := 1) Tryz.underlying33 (by kernel_rfl) (by rw [show Tryz.prog.cellsOf 33 = 16 by kernel_rfl]; simp [rgCells, hl]) (by simp [rgCells, hl]) fun i hi => ?_
  have e := flat_chunk (fun n : Int => [Value.int .u32 n]) 1 l (fun _ _ => rfl) i (by omega)
  rw [← List.map_eq_flatMap] at e
  change ((rgCells l).drop (i * 1)).take 1 = _ at e
  rw [e]
  exact (fun {n} (q : inU32 n) => (kl_int Tryz.underlying32 (wf_u32 q) : KL 5 32 [.int .u32 n])) (h _ (List.getElem_mem _))
theorem kl_space (l : List Pg) (hl : l.length = 16) (h : ∀ g ∈ l, inJ8 g.frame) : KL 7 39 (pgCells l) := by
  refine kl_array (k := 3) Tryz.underlying39 (by kernel_rfl) (by rw [show Tryz.prog.cellsOf 39 = 48 by kernel_rfl]; simp [pgCells_length, hl]) (by simp [pgCells_length, hl]) fun i hi => ?_
  have e := flat_chunk pgCells1 3 l (fun _ _ => rfl) i (by omega)
  skip
  change ((pgCells l).drop (i * 3)).take 3 = _ at e
  rw [e]
  exact kl_pg _ (h _ (List.getElem_mem _))
theorem kl_fds (l : List Fl) (hl : l.length = 8) (h : ∀ g ∈ l, inJ8 g.kind ∧ inJ8 g.n ∧ inJ8 g.pos) : KL 7 42 (flCells l) := by
  refine kl_array (k := 3) Tryz.underlying42 (by kernel_rfl) (by rw [show Tryz.prog.cellsOf 42 = 24 by kernel_rfl]; simp [flCells_length, hl]) (by simp [flCells_length, hl]) fun i hi => ?_
  have e := flat_chunk flCells1 3 l (fun _ _ => rfl) i (by omega)
  skip
  change ((flCells l).drop (i * 3)).take 3 = _ at e
  rw [e]
  exact kl_fl _ (h _ (List.getElem_mem _))
set_option maxRecDepth 100000 in
theorem kl_cpu (l : List Int) (pc : Int) (hl : l.length = 16) (h : ∀ r ∈ l, inU32 r) (hp : inU32 pc) : KL 7 35 (rgCells l ++ [Value.int .u32 pc]) := by
  have hg : (rgCells l).length = 16 := by simp [rgCells, hl]
  have k0 : KL 6 33 (((rgCells l ++ [Value.int .u32 pc]).drop 0).take (Tryz.prog.cellsOf 33)) := by
    rw [show Tryz.prog.cellsOf 33 = 16 by kernel_rfl, List.drop_zero, List.take_append_of_le_length (by omega), List.take_of_length_le (by omega)]
    exact (show KL 6 33 (rgCells l) from kl_regs l hl h)
  have k1 : KL 6 32 (((rgCells l ++ [Value.int .u32 pc]).drop 16).take (Tryz.prog.cellsOf 32)) := by
    rw [show Tryz.prog.cellsOf 32 = 1 by kernel_rfl, List.drop_append_of_le_length (by omega), List.drop_of_length_le (by omega), List.nil_append]
    exact (show KL 6 32 ([Value.int .u32 pc]) from kl_int Tryz.underlying32 (wf_u32 hp))
  have hl2 : (rgCells l ++ [Value.int .u32 pc]).length = Tryz.prog.cellsOf 35 := by rw [show Tryz.prog.cellsOf 35 = 17 by kernel_rfl]; simp [hg]
  obtain ⟨r0, r1, r2, r3, r4, r5, r6, r7, r8, r9, r10, r11, r12, r13, r14, r15, rfl⟩ := list16' l hl
  exact kl_struct Tryz.underlying35 hl2 (by kernel_rfl) ⟨k0, k1, trivial⟩ (by kernel_rfl)
set_option maxRecDepth 100000 in
set_option maxHeartbeats 4000000 in
theorem pr_kl {p : Pr} (hp : PrOk p) : KL 8 44 (prCells p) ∧ (Value.agg (prCells p).toArray).formed Tryz.prog 44 = true := by
  obtain ⟨pid, par, st, rg, pc, sp, fl, mk, cd, wy, nn⟩ := p
  obtain ⟨r0, r1, r2, r3, r4, r5, r6, r7, r8, r9, r10, r11, r12, r13, r14, r15, rfl⟩ := list16' rg hp.regs
  obtain ⟨g0, g1, g2, g3, g4, g5, g6, g7, g8, g9, g10, g11, g12, g13, g14, g15, rfl⟩ := list16' sp hp.space
  obtain ⟨f0, f1, f2, f3, f4, f5, f6, f7, rfl⟩ := list8' fl hp.fds
  have k0 : KL 7 3 (((prCells ⟨pid, par, st, [r0, r1, r2, r3, r4, r5, r6, r7, r8, r9, r10, r11, r12, r13, r14, r15], pc, [g0, g1, g2, g3, g4, g5, g6, g7, g8, g9, g10, g11, g12, g13, g14, g15], [f0, f1, f2, f3, f4, f5, f6, f7], mk, cd, wy, nn⟩).drop 0).take (Tryz.prog.cellsOf 3)) := by
    rw [show Tryz.prog.cellsOf 3 = 1 by kernel_rfl]
    exact (show KL 7 3 ([.int .i64 pid]) from kl_int Tryz.underlying3 (wf_j8 hp.pid))
  have k1 : KL 7 3 (((prCells ⟨pid, par, st, [r0, r1, r2, r3, r4, r5, r6, r7, r8, r9, r10, r11, r12, r13, r14, r15], pc, [g0, g1, g2, g3, g4, g5, g6, g7, g8, g9, g10, g11, g12, g13, g14, g15], [f0, f1, f2, f3, f4, f5, f6, f7], mk, cd, wy, nn⟩).drop 1).take (Tryz.prog.cellsOf 3)) := by
    rw [show Tryz.prog.cellsOf 3 = 1 by kernel_rfl]
    exact (show KL 7 3 ([.int .i64 par]) from kl_int Tryz.underlying3 (wf_j8 hp.parent))
  have k2 : KL 7 3 (((prCells ⟨pid, par, st, [r0, r1, r2, r3, r4, r5, r6, r7, r8, r9, r10, r11, r12, r13, r14, r15], pc, [g0, g1, g2, g3, g4, g5, g6, g7, g8, g9, g10, g11, g12, g13, g14, g15], [f0, f1, f2, f3, f4, f5, f6, f7], mk, cd, wy, nn⟩).drop 2).take (Tryz.prog.cellsOf 3)) := by
    rw [show Tryz.prog.cellsOf 3 = 1 by kernel_rfl]
    exact (show KL 7 3 ([.int .i64 st]) from kl_int Tryz.underlying3 (wf_j8 hp.state))
  have k3 : KL 7 35 (((prCells ⟨pid, par, st, [r0, r1, r2, r3, r4, r5, r6, r7, r8, r9, r10, r11, r12, r13, r14, r15], pc, [g0, g1, g2, g3, g4, g5, g6, g7, g8, g9, g10, g11, g12, g13, g14, g15], [f0, f1, f2, f3, f4, f5, f6, f7], mk, cd, wy, nn⟩).drop 3).take (Tryz.prog.cellsOf 35)) := by
    rw [show Tryz.prog.cellsOf 35 = 17 by kernel_rfl]
    exact (show KL 7 35 (rgCells [r0, r1, r2, r3, r4, r5, r6, r7, r8, r9, r10, r11, r12, r13, r14, r15] ++ [.int .u32 pc]) from kl_cpu _ _ rfl hp.reg hp.pc)
  have k4 : KL 7 39 (((prCells ⟨pid, par, st, [r0, r1, r2, r3, r4, r5, r6, r7, r8, r9, r10, r11, r12, r13, r14, r15], pc, [g0, g1, g2, g3, g4, g5, g6, g7, g8, g9, g10, g11, g12, g13, g14, g15], [f0, f1, f2, f3, f4, f5, f6, f7], mk, cd, wy, nn⟩).drop 20).take (Tryz.prog.cellsOf 39)) := by
    rw [show Tryz.prog.cellsOf 39 = 48 by kernel_rfl]
    exact (show KL 7 39 (pgCells [g0, g1, g2, g3, g4, g5, g6, g7, g8, g9, g10, g11, g12, g13, g14, g15]) from kl_space _ rfl hp.page)
  have k5 : KL 7 42 (((prCells ⟨pid, par, st, [r0, r1, r2, r3, r4, r5, r6, r7, r8, r9, r10, r11, r12, r13, r14, r15], pc, [g0, g1, g2, g3, g4, g5, g6, g7, g8, g9, g10, g11, g12, g13, g14, g15], [f0, f1, f2, f3, f4, f5, f6, f7], mk, cd, wy, nn⟩).drop 68).take (Tryz.prog.cellsOf 42)) := by
    rw [show Tryz.prog.cellsOf 42 = 24 by kernel_rfl]
    exact (show KL 7 42 (flCells [f0, f1, f2, f3, f4, f5, f6, f7]) from kl_fds _ rfl hp.fd)
  have k6 : KL 7 4 (((prCells ⟨pid, par, st, [r0, r1, r2, r3, r4, r5, r6, r7, r8, r9, r10, r11, r12, r13, r14, r15], pc, [g0, g1, g2, g3, g4, g5, g6, g7, g8, g9, g10, g11, g12, g13, g14, g15], [f0, f1, f2, f3, f4, f5, f6, f7], mk, cd, wy, nn⟩).drop 92).take (Tryz.prog.cellsOf 4)) := by
    rw [show Tryz.prog.cellsOf 4 = 1 by kernel_rfl]
    exact (show KL 7 4 ([.bool mk]) from kl_bool Tryz.underlying4)
  have k7 : KL 7 32 (((prCells ⟨pid, par, st, [r0, r1, r2, r3, r4, r5, r6, r7, r8, r9, r10, r11, r12, r13, r14, r15], pc, [g0, g1, g2, g3, g4, g5, g6, g7, g8, g9, g10, g11, g12, g13, g14, g15], [f0, f1, f2, f3, f4, f5, f6, f7], mk, cd, wy, nn⟩).drop 93).take (Tryz.prog.cellsOf 32)) := by
    rw [show Tryz.prog.cellsOf 32 = 1 by kernel_rfl]
    exact (show KL 7 32 ([.int .u32 cd]) from kl_int Tryz.underlying32 (wf_u32 hp.code))
  have k8 : KL 7 3 (((prCells ⟨pid, par, st, [r0, r1, r2, r3, r4, r5, r6, r7, r8, r9, r10, r11, r12, r13, r14, r15], pc, [g0, g1, g2, g3, g4, g5, g6, g7, g8, g9, g10, g11, g12, g13, g14, g15], [f0, f1, f2, f3, f4, f5, f6, f7], mk, cd, wy, nn⟩).drop 94).take (Tryz.prog.cellsOf 3)) := by
    rw [show Tryz.prog.cellsOf 3 = 1 by kernel_rfl]
    exact (show KL 7 3 ([.int .i64 wy]) from kl_int Tryz.underlying3 (wf_j8 hp.why))
  have k9 : KL 7 22 (((prCells ⟨pid, par, st, [r0, r1, r2, r3, r4, r5, r6, r7, r8, r9, r10, r11, r12, r13, r14, r15], pc, [g0, g1, g2, g3, g4, g5, g6, g7, g8, g9, g10, g11, g12, g13, g14, g15], [f0, f1, f2, f3, f4, f5, f6, f7], mk, cd, wy, nn⟩).drop 95).take (Tryz.prog.cellsOf 22)) := by
    rw [show Tryz.prog.cellsOf 22 = 1 by kernel_rfl]
    exact (show KL 7 22 ([.int .u64 nn]) from kl_int Tryz.underlying22 (wf_u64 hp.n))
  exact ⟨kl_struct Tryz.underlying44 (by kernel_rfl) (by kernel_rfl) ⟨k0, k1, k2, k3, k4, k5, k6, k7, k8, k9, trivial⟩ (by kernel_rfl), by kernel_rfl⟩
theorem prCells_key (p : Pr) : ∀ v ∈ prCells p, isKey v = true := by
  intro v hv
  simp only [prCells, rgCells, pgCells, flCells, List.mem_cons, List.mem_append, List.mem_map, List.mem_flatMap, List.not_mem_nil, or_false, pgCells1, flCells1] at hv
  rcases hv with rfl | rfl | rfl | ⟨_, _, rfl⟩ | rfl | ⟨_, _, rfl | rfl | rfl⟩ | ⟨_, _, rfl | rfl | rfl⟩ | rfl | rfl | rfl | rfl <;> rfl
theorem flat_inj {α : Type} {f : α → List Value} {k : Nat} (hk : ∀ x, (f x).length = k) (hi : ∀ x y, f x = f y → x = y) : ∀ {a b : List α}, a.length = b.length → a.flatMap f = b.flatMap f → a = b
  | [], [], _, _ => rfl
  | [], _ :: _, h, _ => by simp at h
  | _ :: _, [], h, _ => by simp at h
  | x :: a, y :: b, hl, h => by
    rw [List.flatMap_cons, List.flatMap_cons] at h
    obtain ⟨h1, h2⟩ := List.append_inj h (by rw [hk, hk])
    rw [hi x y h1, flat_inj hk hi (by simpa using hl) h2]
theorem prCells_inj {p q : Pr} (hp : PrOk p) (hq : PrOk q) (h : prCells p = prCells q) : p = q := by
  obtain ⟨a1, a2, a3, a4, a5, a6, a7, a8, a9, a10, a11⟩ := p
  obtain ⟨b1, b2, b3, b4, b5, b6, b7, b8, b9, b10, b11⟩ := q
  simp only [prCells, List.cons.injEq, Value.int.injEq, true_and] at h
  obtain ⟨rfl, rfl, rfl, g1⟩ := h
  have s5 := hp.regs
  have s6 := hq.regs
  simp only at s5 s6
  obtain ⟨h1, g2⟩ := List.append_inj g1 (by simp only [rgCells, List.length_map, s5, s6])
  simp only [List.cons.injEq, Value.int.injEq, true_and] at g2
  obtain ⟨rfl, g3⟩ := g2
  have s1 := hp.space
  have s2 := hq.space
  have s3 := hp.fds
  have s4 := hq.fds
  simp only at s1 s2 s3 s4
  obtain ⟨h2, g4⟩ := List.append_inj g3 (by rw [pgCells_length, pgCells_length, s1, s2])
  obtain ⟨h3, g5⟩ := List.append_inj g4 (by rw [flCells_length, flCells_length, s3, s4])
  simp only [List.cons.injEq, Value.int.injEq, Value.bool.injEq, true_and, and_true] at g5
  obtain ⟨rfl, rfl, rfl, rfl⟩ := g5
  have e1 : a4 = b4 := by
    unfold rgCells at h1
    exact List.map_inj_right (fun x y e => by injection e) |>.1 h1
  have e2 : a6 = b6 := flat_inj (k := 3) (fun _ => rfl) (fun x y e => by obtain ⟨_, _, _⟩ := x; obtain ⟨_, _, _⟩ := y; simp only [pgCells1, List.cons.injEq, Value.bool.injEq, Value.int.injEq, true_and, and_true] at e; obtain ⟨rfl, rfl, rfl⟩ := e; rfl) (by rw [s1, s2]) h2
  have e3 : a7 = b7 := flat_inj (k := 3) (fun _ => rfl) (fun x y e => by obtain ⟨_, _, _⟩ := x; obtain ⟨_, _, _⟩ := y; simp only [flCells1, List.cons.injEq, Value.int.injEq, true_and, and_true] at e; obtain ⟨rfl, rfl, rfl⟩ := e; rfl) (by rw [s3, s4]) h3
  subst e1 e2 e3
  rfl
theorem pr_eqv (w : World) {p q : Pr} (hp : PrOk p) (hq : PrOk q) : (Op.equal 44 (.agg (prCells p).toArray) (.agg (prCells q).toArray)).run Tryz.prog w = .ok (decide (p = q)) w := by
  obtain ⟨h1, h2⟩ := pr_kl hp
  obtain ⟨h3, h4⟩ := pr_kl hq
  obtain ⟨r, hr, hiff⟩ := run_equalIn_deep (P := Tryz.prog) 9992 8 44 (by kernel_rfl) w 8 8 _ _ _ _ h2 h4 h1 h3
  have e : r = decide (p = q) := by
    rw [Bool.eq_iff_iff, hiff, decide_eq_true_eq]
    exact ⟨fun e => prCells_inj hp hq (mapLit_inj (prCells_key p) (prCells_key q) e), fun e => by rw [e]⟩
  rw [e] at hr
  exact hr
theorem pr_neqv (w : World) {p q : Pr} (hp : PrOk p) (hq : PrOk q) : (binOp .neq 44 (.agg (prCells p).toArray) (.agg (prCells q).toArray)).run Tryz.prog w = .ok (.bool (!decide (p = q))) w := by
  unfold binOp
  simp only [Sem.run_bind, pr_eqv w hp hq, Result.andThen_ok, Sem.run_pure]
theorem toList_mk (l : List UInt8) : (⟨l.toArray⟩ : ByteArray).toList = l := by rw [ByteArray.toList_eq]
theorem nb_neqv_wr (w : World) (x y : Nb) : (binOp .neq 48 (.agg (nbCells1 x).toArray) (.agg (nbCells1 y).toArray)).run Tryz.prog w = .ok (.bool (!decide (x = y))) w := by
  obtain ⟨a, s⟩ := x
  obtain ⟨b, t⟩ := y
  simp only [nbCells1]
  go_simp
  by_cases h1 : a = b <;> by_cases h2 : s = t <;> simp [h1, h2]
theorem nb_neqv_pi (w : World) (x y : Nb) : (binOp .neq 46 (.agg (nbCells1 x).toArray) (.agg (nbCells1 y).toArray)).run Tryz.prog w = .ok (.bool (!decide (x = y))) w := by
  obtain ⟨a, s⟩ := x
  obtain ⟨b, t⟩ := y
  simp only [nbCells1]
  go_simp
  by_cases h1 : a = b <;> by_cases h2 : s = t <;> simp [h1, h2]
/-- what of a machine isn't a list -/
def plL (m : Mc) : List Value := [.int .u64 m.clock, .int .u64 m.told, .int .i64 m.quantum, .int .i64 m.cur, .int .i64 m.left, .int .i64 m.next, .int .i64 m.newPipe, .int .i64 m.dleft, S m.init, S m.inp, .bool m.fin]
def plB (m n : Mc) : Bool := decide (m.clock = n.clock ∧ m.told = n.told ∧ m.quantum = n.quantum ∧ m.cur = n.cur ∧ m.left = n.left ∧ m.next = n.next ∧ m.newPipe = n.newPipe ∧ m.dleft = n.dleft ∧ m.init = n.init ∧ m.inp = n.inp ∧ m.fin = n.fin)
set_option maxHeartbeats 2000000 in
theorem pl_eqv (w : World) (m n : Mc) : (binOp .eql 60 (.agg (plL m).toArray) (.agg (plL n).toArray)).run Tryz.prog w = .ok (.bool (plB m n)) w := by
  obtain ⟨a0, a1, a2, a3, a4, a5, a6, a7, a8, a9, a10, a11, a12, a13, a14, a15, a16⟩ := m
  obtain ⟨b0, b1, b2, b3, b4, b5, b6, b7, b8, b9, b10, b11, b12, b13, b14, b15, b16⟩ := n
  simp only [plL]
  unfold plB
  go_simp
  split
  rotate_left
  · rename_i h; simp [h]
  split
  rotate_left
  · rename_i h; simp [h]
  split
  rotate_left
  · rename_i h; simp [h]
  split
  rotate_left
  · rename_i h; simp [h]
  split
  rotate_left
  · rename_i h; simp [h]
  split
  rotate_left
  · rename_i h; simp [h]
  split
  rotate_left
  · rename_i h; simp [h]
  split
  rotate_left
  · rename_i h; simp [h]
  split
  rotate_left
  · rename_i h; simp [h]
  split
  rotate_left
  · rename_i h; simp [h]
  split
  rotate_left
  · rename_i h; simp [h]
  simp [*]
/-- two structs, compared -/
theorem oper_neq_agg {P : Program} {o : Oper} {K : Act → World → Prop} {a : Act} {w : World} {Q : Exit → Act → World → Prop} (ty : TypeId) (x y : Operand) (ho : o.op = .binOp .neq ty x y ty) (cs ds : Array Value) (hx : a.eval x = .agg cs) (hy : a.eval y = .agg ds)
    (hg : P.eqGuardType P.depth ty = false) (r : Bool) (hr : (binOp .neq ty (.agg cs) (.agg ds)).run P w = .ok (.bool r) w) (h : K (a.put o.dst (.bool r)) w) : o.wp P a w K Q := by
  unfold Oper.wp execOp
  simp only [ho, hx, hy, Sem.run_bind, run_eqGuard_agg w .neq ty x y cs ds hg, Result.andThen_ok, hr, Sem.run_pure]
  exact h
theorem oper_eql_agg {P : Program} {o : Oper} {K : Act → World → Prop} {a : Act} {w : World} {Q : Exit → Act → World → Prop} (ty : TypeId) (x y : Operand) (ho : o.op = .binOp .eql ty x y ty) (cs ds : Array Value) (hx : a.eval x = .agg cs) (hy : a.eval y = .agg ds)
    (hg : P.eqGuardType P.depth ty = false) (r : Bool) (hr : (binOp .eql ty (.agg cs) (.agg ds)).run P w = .ok (.bool r) w) (h : K (a.put o.dst (.bool r)) w) : o.wp P a w K Q := by
  unfold Oper.wp execOp
  simp only [ho, hx, hy, Sem.run_bind, run_eqGuard_agg w .eql ty x y cs ds hg, Result.andThen_ok, hr, Sem.run_pure]
  exact h
/-- a value, where it was reckoned -/
def cv (c : Bool) (v : Value) : Value := if c then v else undef
theorem cv_t {c : Bool} (h : c = true) (v : Value) : cv c v = v := by rw [h]; rfl
theorem cv_f {c : Bool} (h : c = false) (v : Value) : cv c v = undef := by rw [h]; rfl
/-- a guarded operation, its guard as it may be -/
theorem opStep_may {P : Program} {ops : Array Oper} {Q : Exit → Act → World → Prop} {j : Nat} {o : Oper} {K : Act → World → Prop} {a : Act} {w : World} (hg : o.guard = some (j, true)) {d : Nat} (hd : dstAt ops j = some d) (hz : decide (d < a.tmps.size) = true) {c : Bool} (hv : a.eval (.tmp d) = .bool c)
    (h1 : c = true → o.wp P a w K Q) (h0 : c = false → K (a.put o.dst undef) w) : opStep P ops Q o K a w := by
  cases c
  · exact opStep_no hg hd hz hv rfl (h0 rfl)
  · exact opStep_yes hg hd hz hv (h1 rfl)
theorem get_some {α : Type} {l : List α} {k : Nat} (h : k < l.length) : ∃ x, l[k]? = some x := ⟨_, List.getElem?_eq_getElem h⟩
theorem take_more {α : Type} {l : List α} {k : Nat} {x : α} (h : l[k]? = some x) : l.take (k + 1) = l.take k ++ [x] := by
  obtain ⟨hl, rfl⟩ := List.getElem?_eq_some_iff.1 h
  rw [List.take_succ_eq_append_getElem hl]
theorem take_same {α : Type} {a b : List α} (h : a.length = b.length) (e : a.take a.length = b.take a.length) : a = b := by
  rw [List.take_length, h, List.take_length] at e; exact e
end Go.Proofs.YtfdflkddmgninaaGreatDoor
/-
  Walks: slices.Equal at texts, processes, pipes, writes; hibernacleref26.texts, SameProcs, writes. (Printed by gen_msb.py.)
-/
namespace Go.Proofs.YtfdflkddmgninaaGreatDoor
open Go.RowKit

set_option maxRecDepth 100000 in
set_option maxHeartbeats 1000000 in
theorem eqS_any (w : World) (A B : Option Addr) (c d : Nat) (a b : List (List UInt8)) (hA : Strs w w.heap.size A a) (hB : Strs w w.heap.size B b) (la : a.length ≤ 1099511627776) (lb : b.length ≤ 1099511627776) :
    Calls Tryz.prog 14 #[.slice A a.length c, .slice B b.length d] w fun e w' => e = .returned (.bool (decide (a = b))) ∧ Below w.heap.size w w' := by
  have HA := Lib.hid hA
  have HB := Lib.hid hB
  clear hA hB
  by_cases hl : a.length = b.length
  · have n1 : ((a.length : Int) != (b.length : Int)) = false := by simp [hl]
    have n2 : (a.length != b.length) = false := by simp [hl]
    have HL := Lib.hid hl
    clear hl
    go_enter Tryz.func14, Tryz.ntmps14
    go_wp2_with fail
    clear n1 n2
    go_loopw [13] (fun i wr => ∃ k : Nat, k ≤ a.length ∧ i = .int .i64 k ∧ Hid (a.take k = b.take k) ∧ Hid (Below w.heap.size w wr)) (fun i _ => a.length - (intOf i).toNat)
    case atStart => exact ⟨0, by omega, rfl, Lib.hid rfl, Lib.hid (Below.refl _ _)⟩
    case round =>
      obtain ⟨k, hk, rfl, HE, HW⟩ := hrel
      by_cases hlt : k < a.length
      · have hltb : k < b.length := by rw [← HL.out]; exact hlt
        obtain ⟨x, hx⟩ := get_some hlt
        obtain ⟨y, hy⟩ := get_some hltb
        have TA := Lib.hid (take_more hx)
        have TB := Lib.hid (take_more hy)
        have HN : Hid (x ≠ y → decide (a = b) = false) := Lib.hid (fun hne => by rw [decide_eq_false_iff_not]; rintro rfl; exact hne (Option.some.inj (hx.symm.trans hy)))
        have hzr := HW.out.size
        obtain ⟨ad, rfl, had, a0⟩ := HA.out k (S x) (by rw [List.getElem?_map, hx]; rfl)
        obtain ⟨bd, rfl, hbd, b0⟩ := HB.out k (S y) (by rw [List.getElem?_map, hy]; rfl)
        have LD : Hid (∀ W, Below wr.heap.size wr W → W.cell? (ad.add k) = some (S x)) := Lib.hid fun W hW => (HW.out.trans (hW.mono hzr)).cell (by rw [add_block]; exact had) |>.trans a0
        have LE : Hid (∀ W, Below wr.heap.size wr W → W.cell? (bd.add k) = some (S y)) := Lib.hid fun W hW => (HW.out.trans (hW.mono hzr)).cell (by rw [add_block]; exact hbd) |>.trans b0
        clear a0 b0
        have q0 : (0 : Int) ≤ (k : Int) := by omega
        have q1 : (k : Int) < (a.length : Int) := by omega
        have q2 : (k : Int) < (b.length : Int) := by omega
        have d1 : decide ((k : Int) < (a.length : Int)) = true := decide_eq_true q1
        have d2 : decide (k < a.length) = true := decide_eq_true hlt
        obtain ⟨e, HEE⟩ : ∃ z, Hid (decide (x = y) = z) := ⟨_, Lib.hid rfl⟩
        clear hx hy
        go_upto_region 6 with (fail)
        refine' wp_region_sure (by kernel_rfl) (fun W => Below wr.heap.size wr W) 9 [_, _, _, _, _, _, _, _, .bool (!e)] [some 16, some 17, some 18, some 19, some 20, some 21, some 22, some 23, some 24] (by kernel_rfl) (by kernel_rfl) (by kernel_rfl) (by kernel_rfl) rfl (Below.refl _ _).drew ?hs
        case hs =>
          refine sure_cons ?_ ?_
          · intro L ac W K hed hJ hS hK
            have hA0 : ac.eval (.tmp 0) = .slice (some ad) a.length c := hJ.eval_old 0 (by kernel_rfl)
            clear hed hJ
            refine opStep_of rfl ?_
            unfold Oper.wp execOp
            have hN0 := evalN hA0
            go_simp
            exact hK _ hS
          refine sure_cons ?_ ?_
          · intro L ac W K hed hJ hS hK
            have hA5 : ac.eval (.tmp 5) = .int .i64 (k : Int) := hJ.eval_old 5 (by kernel_rfl)
            clear hed hJ
            refine opStep_of rfl ?_
            unfold Oper.wp execOp
            have hN5 := evalN hA5
            go_simp
            exact hK _ hS
          refine sure_cons ?_ ?_
          · intro L ac W K hed hJ hS hK
            have hn := needs_spec (l := [0, 1]) (by kernel_rfl) hed
            have hA16 := hJ.eval 0 (d := 16) (hn 0 (by simp)) rfl rfl rfl
            have hA17 := hJ.eval 1 (d := 17) (hn 1 (by simp)) rfl rfl rfl
            clear hed hJ hn
            refine opStep_of rfl ?_
            unfold Oper.wp execOp
            have hN16 := evalN hA16
            have hN17 := evalN hA17
            go_simp
            exact hK _ hS
          refine sure_cons ?_ ?_
          · intro L ac W K hed hJ hS hK
            have hn := needs_spec (l := [2]) (by kernel_rfl) hed
            have hA18 := hJ.eval 2 (d := 18) (hn 2 (by simp)) rfl rfl rfl
            clear hed hJ hn
            refine opStep_of rfl ?_
            have cc := LD.out W hS
            unfold Oper.wp execOp
            have hN18 := evalN hA18
            go_simp
            exact hK _ hS
          refine sure_cons ?_ ?_
          · intro L ac W K hed hJ hS hK
            have hA1 : ac.eval (.tmp 1) = .slice (some bd) b.length d := hJ.eval_old 1 (by kernel_rfl)
            clear hed hJ
            refine opStep_of rfl ?_
            unfold Oper.wp execOp
            have hN1 := evalN hA1
            go_simp
            exact hK _ hS
          refine sure_cons ?_ ?_
          · intro L ac W K hed hJ hS hK
            have hA5 : ac.eval (.tmp 5) = .int .i64 (k : Int) := hJ.eval_old 5 (by kernel_rfl)
            clear hed hJ
            refine opStep_of rfl ?_
            unfold Oper.wp execOp
            have hN5 := evalN hA5
            go_simp
            exact hK _ hS
          refine sure_cons ?_ ?_
          · intro L ac W K hed hJ hS hK
            have hn := needs_spec (l := [4, 5]) (by kernel_rfl) hed
            have hA20 := hJ.eval 4 (d := 20) (hn 4 (by simp)) rfl rfl rfl
            have hA21 := hJ.eval 5 (d := 21) (hn 5 (by simp)) rfl rfl rfl
            clear hed hJ hn
            refine opStep_of rfl ?_
            unfold Oper.wp execOp
            have hN20 := evalN hA20
            have hN21 := evalN hA21
            go_simp
            exact hK _ hS
          refine sure_cons ?_ ?_
          · intro L ac W K hed hJ hS hK
            have hn := needs_spec (l := [6]) (by kernel_rfl) hed
            have hA22 := hJ.eval 6 (d := 22) (hn 6 (by simp)) rfl rfl rfl
            clear hed hJ hn
            refine opStep_of rfl ?_
            have cc := LE.out W hS
            unfold Oper.wp execOp
            have hN22 := evalN hA22
            go_simp
            exact hK _ hS
          refine sure_cons ?_ ?_
          · intro L ac W K hed hJ hS hK
            have hn := needs_spec (l := [3, 7]) (by kernel_rfl) hed
            have hA19 := hJ.eval 3 (d := 19) (hn 3 (by simp)) rfl rfl rfl
            have hA23 := hJ.eval 7 (d := 23) (hn 7 (by simp)) rfl rfl rfl
            clear hed hJ hn
            refine opStep_of rfl ?_
            unfold Oper.wp execOp
            have hN19 := evalN hA19
            have hN23 := evalN hA23
            go_simp
            rw [show (x == y) = e by rw [← HEE.out]; by_cases h : x = y <;> simp [h]]
            exact hK _ hS
          refine sure_nil ?_
          intro W hS
          simp only [putAll, Act.put, List.setIfInBounds_toArray, List.set_cons_zero, List.set_cons_succ]
          have HR6 := Lib.hid (HW.out.trans (hS.mono hzr))
          clear hS
          cases e
          · have HD : Hid (decide (a = b) = false) := Lib.hid (HN.out (of_decide_eq_false HEE.out))
            go_wp2_with fail
            go_ret
            exact ⟨by rw [HD.out]; rfl, HR6.out⟩
          · have hxy : x = y := of_decide_eq_true HEE.out
            have HK : Hid (a.take (k + 1) = b.take (k + 1)) := Lib.hid (by rw [TA.out, TB.out, HE.out, hxy])
            clear hxy
            go_wp2_with fail
            go_roundw
            case rel =>
              have R : ∃ k' : Nat, k' ≤ a.length ∧ Value.int .i64 ((k : Int) + 1) = .int .i64 k' ∧ Hid (a.take k' = b.take k') ∧ Hid (Below w.heap.size w W) := ⟨k + 1, by omega, by go_num, HK, HR6⟩
              first | exact R | ((repeat apply Exists.intro); exact ⟨R, rfl⟩)
            case measure => simp [intOf]; omega
      · obtain rfl : k = a.length := by omega
        have hd : decide (a.length < a.length) = false := by simp
        have HQ : Hid (decide (a = b) = true) := Lib.hid (decide_eq_true (take_same HL.out HE.out))
        go_wp2_with fail
        go_ret
        exact ⟨by rw [HQ.out]; rfl, HW.out⟩
  · have n1 : ((a.length : Int) != (b.length : Int)) = true := by simp; omega
    have n2 : (a.length != b.length) = true := by simp [hl]
    have HQ : Hid (decide (a = b) = false) := Lib.hid (by rw [decide_eq_false_iff_not]; rintro rfl; exact hl rfl)
    clear hl
    go_enter Tryz.func14, Tryz.ntmps14
    go_wp2_with fail
    go_ret
    exact ⟨by rw [HQ.out]; rfl, Below.refl _ _⟩
set_option maxRecDepth 100000 in
set_option maxHeartbeats 1000000 in
theorem eqP_any (w : World) (A B : Option Addr) (c d : Nat) (a b : List Pr) (ha : ∀ p ∈ a, PrOk p) (hb : ∀ p ∈ b, PrOk p) (hA : Lies w w.heap.size A (a.flatMap prCells)) (hB : Lies w w.heap.size B (b.flatMap prCells)) (la : a.length ≤ 1099511627776) (lb : b.length ≤ 1099511627776) :
    Calls Tryz.prog 15 #[.slice A a.length c, .slice B b.length d] w fun e w' => e = .returned (.bool (decide (a = b))) ∧ Below w.heap.size w w' := by
  have HA := Lib.hid hA
  have HB := Lib.hid hB
  clear hA hB
  have HPA := Lib.hid ha
  have HPB := Lib.hid hb
  clear ha hb
  by_cases hl : a.length = b.length
  · have n1 : ((a.length : Int) != (b.length : Int)) = false := by simp [hl]
    have n2 : (a.length != b.length) = false := by simp [hl]
    have HL := Lib.hid hl
    clear hl
    go_enter Tryz.func15, Tryz.ntmps15
    go_wp2_with fail
    clear n1 n2
    go_loopw [13] (fun i wr => ∃ k : Nat, k ≤ a.length ∧ i = .int .i64 k ∧ Hid (a.take k = b.take k) ∧ Hid (Below w.heap.size w wr)) (fun i _ => a.length - (intOf i).toNat)
    case atStart => exact ⟨0, by omega, rfl, Lib.hid rfl, Lib.hid (Below.refl _ _)⟩
    case round =>
      obtain ⟨k, hk, rfl, HE, HW⟩ := hrel
      by_cases hlt : k < a.length
      · have hltb : k < b.length := by rw [← HL.out]; exact hlt
        obtain ⟨x, hx⟩ := get_some hlt
        obtain ⟨y, hy⟩ := get_some hltb
        have TA := Lib.hid (take_more hx)
        have TB := Lib.hid (take_more hy)
        have HN : Hid (x ≠ y → decide (a = b) = false) := Lib.hid (fun hne => by rw [decide_eq_false_iff_not]; rintro rfl; exact hne (Option.some.inj (hx.symm.trans hy)))
        have hzr := HW.out.size
        have HXO := Lib.hid (HPA.out x (List.mem_of_getElem? hx))
        have HYO := Lib.hid (HPB.out y (List.mem_of_getElem? hy))
        obtain ⟨ad, rfl, had, hc⟩ := Lies.row (f := prCells) (n := 96) HA.out (fun y hy => prCells_length (HPA.out y hy)) (by omega) hx
        obtain ⟨bd, rfl, hbd, hc'⟩ := Lies.row (f := prCells) (n := 96) HB.out (fun y hy => prCells_length (HPB.out y hy)) (by omega) hy
        have LD : Hid (∀ W, Below wr.heap.size wr W → ∀ j v, (prCells x)[j]? = some v → W.cell? ((ad.add (k * 96)).add j) = some v) := Lib.hid fun W hW j v hv => ((HW.out.trans (hW.mono hzr)).cell (by rw [add_block, add_block]; exact had)).trans (hc j v hv)
        have LE : Hid (∀ W, Below wr.heap.size wr W → ∀ j v, (prCells y)[j]? = some v → W.cell? ((bd.add (k * 96)).add j) = some v) := Lib.hid fun W hW j v hv => ((HW.out.trans (hW.mono hzr)).cell (by rw [add_block, add_block]; exact hbd)).trans (hc' j v hv)
        have PIX : Hid ((Tryz.prog.info? 44).map (·.size) = some (prCells x).length) := Lib.hid (by rw [show (prCells x).length = 96 from prCells_length HXO.out]; kernel_rfl)
        have PIY : Hid ((Tryz.prog.info? 44).map (·.size) = some (prCells y).length) := Lib.hid (by rw [show (prCells y).length = 96 from prCells_length HYO.out]; kernel_rfl)
        clear hc hc'
        have q0 : (0 : Int) ≤ (k : Int) := by omega
        have q1 : (k : Int) < (a.length : Int) := by omega
        have q2 : (k : Int) < (b.length : Int) := by omega
        have d1 : decide ((k : Int) < (a.length : Int)) = true := decide_eq_true q1
        have d2 : decide (k < a.length) = true := decide_eq_true hlt
        obtain ⟨e, HEE⟩ : ∃ z, Hid (decide (x = y) = z) := ⟨_, Lib.hid rfl⟩
        clear hx hy
        go_upto_region 6 with (fail)
        refine' wp_region_sure (by kernel_rfl) (fun W => Below wr.heap.size wr W) 9 [_, _, _, _, _, _, _, _, .bool (!e)] [some 16, some 17, some 18, some 19, some 20, some 21, some 22, some 23, some 24] (by kernel_rfl) (by kernel_rfl) (by kernel_rfl) (by kernel_rfl) rfl (Below.refl _ _).drew ?hs
        case hs =>
          refine sure_cons ?_ ?_
          · intro L ac W K hed hJ hS hK
            have hA0 : ac.eval (.tmp 0) = .slice (some ad) a.length c := hJ.eval_old 0 (by kernel_rfl)
            clear hed hJ
            refine opStep_of rfl ?_
            unfold Oper.wp execOp
            have hN0 := evalN hA0
            go_simp
            exact hK _ hS
          refine sure_cons ?_ ?_
          · intro L ac W K hed hJ hS hK
            have hA5 : ac.eval (.tmp 5) = .int .i64 (k : Int) := hJ.eval_old 5 (by kernel_rfl)
            clear hed hJ
            refine opStep_of rfl ?_
            unfold Oper.wp execOp
            have hN5 := evalN hA5
            go_simp
            exact hK _ hS
          refine sure_cons ?_ ?_
          · intro L ac W K hed hJ hS hK
            have hn := needs_spec (l := [0, 1]) (by kernel_rfl) hed
            have hA16 := hJ.eval 0 (d := 16) (hn 0 (by simp)) rfl rfl rfl
            have hA17 := hJ.eval 1 (d := 17) (hn 1 (by simp)) rfl rfl rfl
            clear hed hJ hn
            refine opStep_of rfl ?_
            unfold Oper.wp execOp
            have hN16 := evalN hA16
            have hN17 := evalN hA17
            go_simp
            exact hK _ hS
          refine sure_cons ?_ ?_
          · intro L ac W K hed hJ hS hK
            have hn := needs_spec (l := [2]) (by kernel_rfl) hed
            have hA18 := hJ.eval 2 (d := 18) (hn 2 (by simp)) rfl rfl rfl
            clear hed hJ hn
            refine opStep_of rfl ?_
            refine oper_load_at 44 (.tmp 18) rfl (ad.add (k * 96)) hA18 (prCells x) _ (LD.out W hS) Tryz.underlying44 rfl PIX.out ?_
            exact hK _ hS
          refine sure_cons ?_ ?_
          · intro L ac W K hed hJ hS hK
            have hA1 : ac.eval (.tmp 1) = .slice (some bd) b.length d := hJ.eval_old 1 (by kernel_rfl)
            clear hed hJ
            refine opStep_of rfl ?_
            unfold Oper.wp execOp
            have hN1 := evalN hA1
            go_simp
            exact hK _ hS
          refine sure_cons ?_ ?_
          · intro L ac W K hed hJ hS hK
            have hA5 : ac.eval (.tmp 5) = .int .i64 (k : Int) := hJ.eval_old 5 (by kernel_rfl)
            clear hed hJ
            refine opStep_of rfl ?_
            unfold Oper.wp execOp
            have hN5 := evalN hA5
            go_simp
            exact hK _ hS
          refine sure_cons ?_ ?_
          · intro L ac W K hed hJ hS hK
            have hn := needs_spec (l := [4, 5]) (by kernel_rfl) hed
            have hA20 := hJ.eval 4 (d := 20) (hn 4 (by simp)) rfl rfl rfl
            have hA21 := hJ.eval 5 (d := 21) (hn 5 (by simp)) rfl rfl rfl
            clear hed hJ hn
            refine opStep_of rfl ?_
            unfold Oper.wp execOp
            have hN20 := evalN hA20
            have hN21 := evalN hA21
            go_simp
            exact hK _ hS
          refine sure_cons ?_ ?_
          · intro L ac W K hed hJ hS hK
            have hn := needs_spec (l := [6]) (by kernel_rfl) hed
            have hA22 := hJ.eval 6 (d := 22) (hn 6 (by simp)) rfl rfl rfl
            clear hed hJ hn
            refine opStep_of rfl ?_
            refine oper_load_at 44 (.tmp 22) rfl (bd.add (k * 96)) hA22 (prCells y) _ (LE.out W hS) Tryz.underlying44 rfl PIY.out ?_
            exact hK _ hS
          refine sure_cons ?_ ?_
          · intro L ac W K hed hJ hS hK
            have hn := needs_spec (l := [3, 7]) (by kernel_rfl) hed
            have hA19 := hJ.eval 3 (d := 19) (hn 3 (by simp)) rfl rfl rfl
            have hA23 := hJ.eval 7 (d := 23) (hn 7 (by simp)) rfl rfl rfl
            clear hed hJ hn
            refine opStep_of rfl ?_
            refine oper_neq_agg 44 (.tmp 19) (.tmp 23) rfl (prCells x).toArray (prCells y).toArray hA19 hA23 (by kernel_rfl) (!e) (by have h := pr_neqv W HXO.out HYO.out; rw [HEE.out] at h; exact h) ?_
            exact hK _ hS
          refine sure_nil ?_
          intro W hS
          simp only [putAll, Act.put, List.setIfInBounds_toArray, List.set_cons_zero, List.set_cons_succ]
          have HR6 := Lib.hid (HW.out.trans (hS.mono hzr))
          clear hS
          cases e
          · have HD : Hid (decide (a = b) = false) := Lib.hid (HN.out (of_decide_eq_false HEE.out))
            go_wp2_with fail
            go_ret
            exact ⟨by rw [HD.out]; rfl, HR6.out⟩
          · have hxy : x = y := of_decide_eq_true HEE.out
            have HK : Hid (a.take (k + 1) = b.take (k + 1)) := Lib.hid (by rw [TA.out, TB.out, HE.out, hxy])
            clear hxy
            go_wp2_with fail
            go_roundw
            case rel =>
              have R : ∃ k' : Nat, k' ≤ a.length ∧ Value.int .i64 ((k : Int) + 1) = .int .i64 k' ∧ Hid (a.take k' = b.take k') ∧ Hid (Below w.heap.size w W) := ⟨k + 1, by omega, by go_num, HK, HR6⟩
              first | exact R | ((repeat apply Exists.intro); exact ⟨R, rfl⟩)
            case measure => simp [intOf]; omega
      · obtain rfl : k = a.length := by omega
        have hd : decide (a.length < a.length) = false := by simp
        have HQ : Hid (decide (a = b) = true) := Lib.hid (decide_eq_true (take_same HL.out HE.out))
        go_wp2_with fail
        go_ret
        exact ⟨by rw [HQ.out]; rfl, HW.out⟩
  · have n1 : ((a.length : Int) != (b.length : Int)) = true := by simp; omega
    have n2 : (a.length != b.length) = true := by simp [hl]
    have HQ : Hid (decide (a = b) = false) := Lib.hid (by rw [decide_eq_false_iff_not]; rintro rfl; exact hl rfl)
    clear hl
    go_enter Tryz.func15, Tryz.ntmps15
    go_wp2_with fail
    go_ret
    exact ⟨by rw [HQ.out]; rfl, Below.refl _ _⟩
set_option maxRecDepth 100000 in
set_option maxHeartbeats 1000000 in
theorem eqQ_any (w : World) (A B : Option Addr) (c d : Nat) (a b : List Nb) (hA : Lies w w.heap.size A (a.flatMap nbCells1)) (hB : Lies w w.heap.size B (b.flatMap nbCells1)) (la : a.length ≤ 1099511627776) (lb : b.length ≤ 1099511627776) :
    Calls Tryz.prog 16 #[.slice A a.length c, .slice B b.length d] w fun e w' => e = .returned (.bool (decide (a = b))) ∧ Below w.heap.size w w' := by
  have HA := Lib.hid hA
  have HB := Lib.hid hB
  clear hA hB
  by_cases hl : a.length = b.length
  · have n1 : ((a.length : Int) != (b.length : Int)) = false := by simp [hl]
    have n2 : (a.length != b.length) = false := by simp [hl]
    have HL := Lib.hid hl
    clear hl
    go_enter Tryz.func16, Tryz.ntmps16
    go_wp2_with fail
    clear n1 n2
    go_loopw [13] (fun i wr => ∃ k : Nat, k ≤ a.length ∧ i = .int .i64 k ∧ Hid (a.take k = b.take k) ∧ Hid (Below w.heap.size w wr)) (fun i _ => a.length - (intOf i).toNat)
    case atStart => exact ⟨0, by omega, rfl, Lib.hid rfl, Lib.hid (Below.refl _ _)⟩
    case round =>
      obtain ⟨k, hk, rfl, HE, HW⟩ := hrel
      by_cases hlt : k < a.length
      · have hltb : k < b.length := by rw [← HL.out]; exact hlt
        obtain ⟨x, hx⟩ := get_some hlt
        obtain ⟨y, hy⟩ := get_some hltb
        have TA := Lib.hid (take_more hx)
        have TB := Lib.hid (take_more hy)
        have HN : Hid (x ≠ y → decide (a = b) = false) := Lib.hid (fun hne => by rw [decide_eq_false_iff_not]; rintro rfl; exact hne (Option.some.inj (hx.symm.trans hy)))
        have hzr := HW.out.size
        obtain ⟨ad, rfl, had, hc⟩ := Lies.row (f := nbCells1) (n := 2) HA.out (fun _ _ => rfl) (by omega) hx
        obtain ⟨bd, rfl, hbd, hc'⟩ := Lies.row (f := nbCells1) (n := 2) HB.out (fun _ _ => rfl) (by omega) hy
        have LD : Hid (∀ W, Below wr.heap.size wr W → ∀ j v, (nbCells1 x)[j]? = some v → W.cell? ((ad.add (k * 2)).add j) = some v) := Lib.hid fun W hW j v hv => ((HW.out.trans (hW.mono hzr)).cell (by rw [add_block, add_block]; exact had)).trans (hc j v hv)
        have LE : Hid (∀ W, Below wr.heap.size wr W → ∀ j v, (nbCells1 y)[j]? = some v → W.cell? ((bd.add (k * 2)).add j) = some v) := Lib.hid fun W hW j v hv => ((HW.out.trans (hW.mono hzr)).cell (by rw [add_block, add_block]; exact hbd)).trans (hc' j v hv)
        have PIX : Hid ((Tryz.prog.info? 46).map (·.size) = some (nbCells1 x).length) := Lib.hid (by rw [show (nbCells1 x).length = 2 from rfl]; kernel_rfl)
        have PIY : Hid ((Tryz.prog.info? 46).map (·.size) = some (nbCells1 y).length) := Lib.hid (by rw [show (nbCells1 y).length = 2 from rfl]; kernel_rfl)
        clear hc hc'
        have q0 : (0 : Int) ≤ (k : Int) := by omega
        have q1 : (k : Int) < (a.length : Int) := by omega
        have q2 : (k : Int) < (b.length : Int) := by omega
        have d1 : decide ((k : Int) < (a.length : Int)) = true := decide_eq_true q1
        have d2 : decide (k < a.length) = true := decide_eq_true hlt
        obtain ⟨e, HEE⟩ : ∃ z, Hid (decide (x = y) = z) := ⟨_, Lib.hid rfl⟩
        clear hx hy
        go_upto_region 6 with (fail)
        refine' wp_region_sure (by kernel_rfl) (fun W => Below wr.heap.size wr W) 9 [_, _, _, _, _, _, _, _, .bool (!e)] [some 16, some 17, some 18, some 19, some 20, some 21, some 22, some 23, some 24] (by kernel_rfl) (by kernel_rfl) (by kernel_rfl) (by kernel_rfl) rfl (Below.refl _ _).drew ?hs
        case hs =>
          refine sure_cons ?_ ?_
          · intro L ac W K hed hJ hS hK
            have hA0 : ac.eval (.tmp 0) = .slice (some ad) a.length c := hJ.eval_old 0 (by kernel_rfl)
            clear hed hJ
            refine opStep_of rfl ?_
            unfold Oper.wp execOp
            have hN0 := evalN hA0
            go_simp
            exact hK _ hS
          refine sure_cons ?_ ?_
          · intro L ac W K hed hJ hS hK
            have hA5 : ac.eval (.tmp 5) = .int .i64 (k : Int) := hJ.eval_old 5 (by kernel_rfl)
            clear hed hJ
            refine opStep_of rfl ?_
            unfold Oper.wp execOp
            have hN5 := evalN hA5
            go_simp
            exact hK _ hS
          refine sure_cons ?_ ?_
          · intro L ac W K hed hJ hS hK
            have hn := needs_spec (l := [0, 1]) (by kernel_rfl) hed
            have hA16 := hJ.eval 0 (d := 16) (hn 0 (by simp)) rfl rfl rfl
            have hA17 := hJ.eval 1 (d := 17) (hn 1 (by simp)) rfl rfl rfl
            clear hed hJ hn
            refine opStep_of rfl ?_
            unfold Oper.wp execOp
            have hN16 := evalN hA16
            have hN17 := evalN hA17
            go_simp
            exact hK _ hS
          refine sure_cons ?_ ?_
          · intro L ac W K hed hJ hS hK
            have hn := needs_spec (l := [2]) (by kernel_rfl) hed
            have hA18 := hJ.eval 2 (d := 18) (hn 2 (by simp)) rfl rfl rfl
            clear hed hJ hn
            refine opStep_of rfl ?_
            refine oper_load_at 46 (.tmp 18) rfl (ad.add (k * 2)) hA18 (nbCells1 x) _ (LD.out W hS) Tryz.underlying46 rfl PIX.out ?_
            exact hK _ hS
          refine sure_cons ?_ ?_
          · intro L ac W K hed hJ hS hK
            have hA1 : ac.eval (.tmp 1) = .slice (some bd) b.length d := hJ.eval_old 1 (by kernel_rfl)
            clear hed hJ
            refine opStep_of rfl ?_
            unfold Oper.wp execOp
            have hN1 := evalN hA1
            go_simp
            exact hK _ hS
          refine sure_cons ?_ ?_
          · intro L ac W K hed hJ hS hK
            have hA5 : ac.eval (.tmp 5) = .int .i64 (k : Int) := hJ.eval_old 5 (by kernel_rfl)
            clear hed hJ
            refine opStep_of rfl ?_
            unfold Oper.wp execOp
            have hN5 := evalN hA5
            go_simp
            exact hK _ hS
          refine sure_cons ?_ ?_
          · intro L ac W K hed hJ hS hK
            have hn := needs_spec (l := [4, 5]) (by kernel_rfl) hed
            have hA20 := hJ.eval 4 (d := 20) (hn 4 (by simp)) rfl rfl rfl
            have hA21 := hJ.eval 5 (d := 21) (hn 5 (by simp)) rfl rfl rfl
            clear hed hJ hn
            refine opStep_of rfl ?_
            unfold Oper.wp execOp
            have hN20 := evalN hA20
            have hN21 := evalN hA21
            go_simp
            exact hK _ hS
          refine sure_cons ?_ ?_
          · intro L ac W K hed hJ hS hK
            have hn := needs_spec (l := [6]) (by kernel_rfl) hed
            have hA22 := hJ.eval 6 (d := 22) (hn 6 (by simp)) rfl rfl rfl
            clear hed hJ hn
            refine opStep_of rfl ?_
            refine oper_load_at 46 (.tmp 22) rfl (bd.add (k * 2)) hA22 (nbCells1 y) _ (LE.out W hS) Tryz.underlying46 rfl PIY.out ?_
            exact hK _ hS
          refine sure_cons ?_ ?_
          · intro L ac W K hed hJ hS hK
            have hn := needs_spec (l := [3, 7]) (by kernel_rfl) hed
            have hA19 := hJ.eval 3 (d := 19) (hn 3 (by simp)) rfl rfl rfl
            have hA23 := hJ.eval 7 (d := 23) (hn 7 (by simp)) rfl rfl rfl
            clear hed hJ hn
            refine opStep_of rfl ?_
            refine oper_neq_agg 46 (.tmp 19) (.tmp 23) rfl (nbCells1 x).toArray (nbCells1 y).toArray hA19 hA23 (by kernel_rfl) (!e) (by have h := nb_neqv_pi W x y; rw [HEE.out] at h; exact h) ?_
            exact hK _ hS
          refine sure_nil ?_
          intro W hS
          simp only [putAll, Act.put, List.setIfInBounds_toArray, List.set_cons_zero, List.set_cons_succ]
          have HR6 := Lib.hid (HW.out.trans (hS.mono hzr))
          clear hS
          cases e
          · have HD : Hid (decide (a = b) = false) := Lib.hid (HN.out (of_decide_eq_false HEE.out))
            go_wp2_with fail
            go_ret
            exact ⟨by rw [HD.out]; rfl, HR6.out⟩
          · have hxy : x = y := of_decide_eq_true HEE.out
            have HK : Hid (a.take (k + 1) = b.take (k + 1)) := Lib.hid (by rw [TA.out, TB.out, HE.out, hxy])
            clear hxy
            go_wp2_with fail
            go_roundw
            case rel =>
              have R : ∃ k' : Nat, k' ≤ a.length ∧ Value.int .i64 ((k : Int) + 1) = .int .i64 k' ∧ Hid (a.take k' = b.take k') ∧ Hid (Below w.heap.size w W) := ⟨k + 1, by omega, by go_num, HK, HR6⟩
              first | exact R | ((repeat apply Exists.intro); exact ⟨R, rfl⟩)
            case measure => simp [intOf]; omega
      · obtain rfl : k = a.length := by omega
        have hd : decide (a.length < a.length) = false := by simp
        have HQ : Hid (decide (a = b) = true) := Lib.hid (decide_eq_true (take_same HL.out HE.out))
        go_wp2_with fail
        go_ret
        exact ⟨by rw [HQ.out]; rfl, HW.out⟩
  · have n1 : ((a.length : Int) != (b.length : Int)) = true := by simp; omega
    have n2 : (a.length != b.length) = true := by simp [hl]
    have HQ : Hid (decide (a = b) = false) := Lib.hid (by rw [decide_eq_false_iff_not]; rintro rfl; exact hl rfl)
    clear hl
    go_enter Tryz.func16, Tryz.ntmps16
    go_wp2_with fail
    go_ret
    exact ⟨by rw [HQ.out]; rfl, Below.refl _ _⟩
set_option maxRecDepth 100000 in
set_option maxHeartbeats 1000000 in
theorem eqN_any (w : World) (A B : Option Addr) (c d : Nat) (a b : List Nb) (hA : Lies w w.heap.size A (a.flatMap nbCells1)) (hB : Lies w w.heap.size B (b.flatMap nbCells1)) (la : a.length ≤ 1099511627776) (lb : b.length ≤ 1099511627776) :
    Calls Tryz.prog 17 #[.slice A a.length c, .slice B b.length d] w fun e w' => e = .returned (.bool (decide (a = b))) ∧ Below w.heap.size w w' := by
  have HA := Lib.hid hA
  have HB := Lib.hid hB
  clear hA hB
  by_cases hl : a.length = b.length
  · have n1 : ((a.length : Int) != (b.length : Int)) = false := by simp [hl]
    have n2 : (a.length != b.length) = false := by simp [hl]
    have HL := Lib.hid hl
    clear hl
    go_enter Tryz.func17, Tryz.ntmps17
    go_wp2_with fail
    clear n1 n2
    go_loopw [13] (fun i wr => ∃ k : Nat, k ≤ a.length ∧ i = .int .i64 k ∧ Hid (a.take k = b.take k) ∧ Hid (Below w.heap.size w wr)) (fun i _ => a.length - (intOf i).toNat)
    case atStart => exact ⟨0, by omega, rfl, Lib.hid rfl, Lib.hid (Below.refl _ _)⟩
    case round =>
      obtain ⟨k, hk, rfl, HE, HW⟩ := hrel
      by_cases hlt : k < a.length
      · have hltb : k < b.length := by rw [← HL.out]; exact hlt
        obtain ⟨x, hx⟩ := get_some hlt
        obtain ⟨y, hy⟩ := get_some hltb
        have TA := Lib.hid (take_more hx)
        have TB := Lib.hid (take_more hy)
        have HN : Hid (x ≠ y → decide (a = b) = false) := Lib.hid (fun hne => by rw [decide_eq_false_iff_not]; rintro rfl; exact hne (Option.some.inj (hx.symm.trans hy)))
        have hzr := HW.out.size
        obtain ⟨ad, rfl, had, hc⟩ := Lies.row (f := nbCells1) (n := 2) HA.out (fun _ _ => rfl) (by omega) hx
        obtain ⟨bd, rfl, hbd, hc'⟩ := Lies.row (f := nbCells1) (n := 2) HB.out (fun _ _ => rfl) (by omega) hy
        have LD : Hid (∀ W, Below wr.heap.size wr W → ∀ j v, (nbCells1 x)[j]? = some v → W.cell? ((ad.add (k * 2)).add j) = some v) := Lib.hid fun W hW j v hv => ((HW.out.trans (hW.mono hzr)).cell (by rw [add_block, add_block]; exact had)).trans (hc j v hv)
        have LE : Hid (∀ W, Below wr.heap.size wr W → ∀ j v, (nbCells1 y)[j]? = some v → W.cell? ((bd.add (k * 2)).add j) = some v) := Lib.hid fun W hW j v hv => ((HW.out.trans (hW.mono hzr)).cell (by rw [add_block, add_block]; exact hbd)).trans (hc' j v hv)
        have PIX : Hid ((Tryz.prog.info? 48).map (·.size) = some (nbCells1 x).length) := Lib.hid (by rw [show (nbCells1 x).length = 2 from rfl]; kernel_rfl)
        have PIY : Hid ((Tryz.prog.info? 48).map (·.size) = some (nbCells1 y).length) := Lib.hid (by rw [show (nbCells1 y).length = 2 from rfl]; kernel_rfl)
        clear hc hc'
        have q0 : (0 : Int) ≤ (k : Int) := by omega
        have q1 : (k : Int) < (a.length : Int) := by omega
        have q2 : (k : Int) < (b.length : Int) := by omega
        have d1 : decide ((k : Int) < (a.length : Int)) = true := decide_eq_true q1
        have d2 : decide (k < a.length) = true := decide_eq_true hlt
        obtain ⟨e, HEE⟩ : ∃ z, Hid (decide (x = y) = z) := ⟨_, Lib.hid rfl⟩
        clear hx hy
        go_upto_region 6 with (fail)
        refine' wp_region_sure (by kernel_rfl) (fun W => Below wr.heap.size wr W) 9 [_, _, _, _, _, _, _, _, .bool (!e)] [some 16, some 17, some 18, some 19, some 20, some 21, some 22, some 23, some 24] (by kernel_rfl) (by kernel_rfl) (by kernel_rfl) (by kernel_rfl) rfl (Below.refl _ _).drew ?hs
        case hs =>
          refine sure_cons ?_ ?_
          · intro L ac W K hed hJ hS hK
            have hA0 : ac.eval (.tmp 0) = .slice (some ad) a.length c := hJ.eval_old 0 (by kernel_rfl)
            clear hed hJ
            refine opStep_of rfl ?_
            unfold Oper.wp execOp
            have hN0 := evalN hA0
            go_simp
            exact hK _ hS
          refine sure_cons ?_ ?_
          · intro L ac W K hed hJ hS hK
            have hA5 : ac.eval (.tmp 5) = .int .i64 (k : Int) := hJ.eval_old 5 (by kernel_rfl)
            clear hed hJ
            refine opStep_of rfl ?_
            unfold Oper.wp execOp
            have hN5 := evalN hA5
            go_simp
            exact hK _ hS
          refine sure_cons ?_ ?_
          · intro L ac W K hed hJ hS hK
            have hn := needs_spec (l := [0, 1]) (by kernel_rfl) hed
            have hA16 := hJ.eval 0 (d := 16) (hn 0 (by simp)) rfl rfl rfl
            have hA17 := hJ.eval 1 (d := 17) (hn 1 (by simp)) rfl rfl rfl
            clear hed hJ hn
            refine opStep_of rfl ?_
            unfold Oper.wp execOp
            have hN16 := evalN hA16
            have hN17 := evalN hA17
            go_simp
            exact hK _ hS
          refine sure_cons ?_ ?_
          · intro L ac W K hed hJ hS hK
            have hn := needs_spec (l := [2]) (by kernel_rfl) hed
            have hA18 := hJ.eval 2 (d := 18) (hn 2 (by simp)) rfl rfl rfl
            clear hed hJ hn
            refine opStep_of rfl ?_
            refine oper_load_at 48 (.tmp 18) rfl (ad.add (k * 2)) hA18 (nbCells1 x) _ (LD.out W hS) Tryz.underlying48 rfl PIX.out ?_
            exact hK _ hS
          refine sure_cons ?_ ?_
          · intro L ac W K hed hJ hS hK
            have hA1 : ac.eval (.tmp 1) = .slice (some bd) b.length d := hJ.eval_old 1 (by kernel_rfl)
            clear hed hJ
            refine opStep_of rfl ?_
            unfold Oper.wp execOp
            have hN1 := evalN hA1
            go_simp
            exact hK _ hS
          refine sure_cons ?_ ?_
          · intro L ac W K hed hJ hS hK
            have hA5 : ac.eval (.tmp 5) = .int .i64 (k : Int) := hJ.eval_old 5 (by kernel_rfl)
            clear hed hJ
            refine opStep_of rfl ?_
            unfold Oper.wp execOp
            have hN5 := evalN hA5
            go_simp
            exact hK _ hS
          refine sure_cons ?_ ?_
          · intro L ac W K hed hJ hS hK
            have hn := needs_spec (l := [4, 5]) (by kernel_rfl) hed
            have hA20 := hJ.eval 4 (d := 20) (hn 4 (by simp)) rfl rfl rfl
            have hA21 := hJ.eval 5 (d := 21) (hn 5 (by simp)) rfl rfl rfl
            clear hed hJ hn
            refine opStep_of rfl ?_
            unfold Oper.wp execOp
            have hN20 := evalN hA20
            have hN21 := evalN hA21
            go_simp
            exact hK _ hS
          refine sure_cons ?_ ?_
          · intro L ac W K hed hJ hS hK
            have hn := needs_spec (l := [6]) (by kernel_rfl) hed
            have hA22 := hJ.eval 6 (d := 22) (hn 6 (by simp)) rfl rfl rfl
            clear hed hJ hn
            refine opStep_of rfl ?_
            refine oper_load_at 48 (.tmp 22) rfl (bd.add (k * 2)) hA22 (nbCells1 y) _ (LE.out W hS) Tryz.underlying48 rfl PIY.out ?_
            exact hK _ hS
          refine sure_cons ?_ ?_
          · intro L ac W K hed hJ hS hK
            have hn := needs_spec (l := [3, 7]) (by kernel_rfl) hed
            have hA19 := hJ.eval 3 (d := 19) (hn 3 (by simp)) rfl rfl rfl
            have hA23 := hJ.eval 7 (d := 23) (hn 7 (by simp)) rfl rfl rfl
            clear hed hJ hn
            refine opStep_of rfl ?_
            refine oper_neq_agg 48 (.tmp 19) (.tmp 23) rfl (nbCells1 x).toArray (nbCells1 y).toArray hA19 hA23 (by kernel_rfl) (!e) (by have h := nb_neqv_wr W x y; rw [HEE.out] at h; exact h) ?_
            exact hK _ hS
          refine sure_nil ?_
          intro W hS
          simp only [putAll, Act.put, List.setIfInBounds_toArray, List.set_cons_zero, List.set_cons_succ]
          have HR6 := Lib.hid (HW.out.trans (hS.mono hzr))
          clear hS
          cases e
          · have HD : Hid (decide (a = b) = false) := Lib.hid (HN.out (of_decide_eq_false HEE.out))
            go_wp2_with fail
            go_ret
            exact ⟨by rw [HD.out]; rfl, HR6.out⟩
          · have hxy : x = y := of_decide_eq_true HEE.out
            have HK : Hid (a.take (k + 1) = b.take (k + 1)) := Lib.hid (by rw [TA.out, TB.out, HE.out, hxy])
            clear hxy
            go_wp2_with fail
            go_roundw
            case rel =>
              have R : ∃ k' : Nat, k' ≤ a.length ∧ Value.int .i64 ((k : Int) + 1) = .int .i64 k' ∧ Hid (a.take k' = b.take k') ∧ Hid (Below w.heap.size w W) := ⟨k + 1, by omega, by go_num, HK, HR6⟩
              first | exact R | ((repeat apply Exists.intro); exact ⟨R, rfl⟩)
            case measure => simp [intOf]; omega
      · obtain rfl : k = a.length := by omega
        have hd : decide (a.length < a.length) = false := by simp
        have HQ : Hid (decide (a = b) = true) := Lib.hid (decide_eq_true (take_same HL.out HE.out))
        go_wp2_with fail
        go_ret
        exact ⟨by rw [HQ.out]; rfl, HW.out⟩
  · have n1 : ((a.length : Int) != (b.length : Int)) = true := by simp; omega
    have n2 : (a.length != b.length) = true := by simp [hl]
    have HQ : Hid (decide (a = b) = false) := Lib.hid (by rw [decide_eq_false_iff_not]; rintro rfl; exact hl rfl)
    clear hl
    go_enter Tryz.func17, Tryz.ntmps17
    go_wp2_with fail
    go_ret
    exact ⟨by rw [HQ.out]; rfl, Below.refl _ _⟩
set_option maxRecDepth 100000 in
set_option maxHeartbeats 1000000 in
theorem rtx_any (w : World) (A B : Option Addr) (c d : Nat) (a b : List (List UInt8)) (hA : Strs w w.heap.size A a) (hB : Strs w w.heap.size B b) (la : a.length ≤ 1099511627776) (lb : b.length ≤ 1099511627776) :
    Calls Tryz.prog 19 #[.slice A a.length c, .slice B b.length d] w fun e w' => e = .returned (.bool (decide (a = b))) ∧ Below w.heap.size w w' := by
  have HA := Lib.hid hA
  have HB := Lib.hid hB
  clear hA hB
  by_cases hl : a.length = b.length
  · have n1 : ((a.length : Int) != (b.length : Int)) = false := by simp [hl]
    have n2 : (a.length != b.length) = false := by simp [hl]
    have HL := Lib.hid hl
    clear hl
    go_enter Tryz.func19, Tryz.ntmps19
    go_wp2_with fail
    clear n1 n2
    go_loopw [5] (fun i wr => ∃ k : Nat, k ≤ a.length ∧ i = .int .i64 k ∧ Hid (a.take k = b.take k) ∧ Hid (Below w.heap.size w wr)) (fun i _ => a.length - (intOf i).toNat)
    case atStart => exact ⟨0, by omega, rfl, Lib.hid rfl, Lib.hid (Below.refl _ _)⟩
    case round =>
      obtain ⟨k, hk, rfl, HE, HW⟩ := hrel
      by_cases hlt : k < a.length
      · have hltb : k < b.length := by rw [← HL.out]; exact hlt
        obtain ⟨x, hx⟩ := get_some hlt
        obtain ⟨y, hy⟩ := get_some hltb
        have TA := Lib.hid (take_more hx)
        have TB := Lib.hid (take_more hy)
        have HN : Hid (x ≠ y → decide (a = b) = false) := Lib.hid (fun hne => by rw [decide_eq_false_iff_not]; rintro rfl; exact hne (Option.some.inj (hx.symm.trans hy)))
        have hzr := HW.out.size
        obtain ⟨ad, rfl, had, a0⟩ := HA.out k (S x) (by rw [List.getElem?_map, hx]; rfl)
        obtain ⟨bd, rfl, hbd, b0⟩ := HB.out k (S y) (by rw [List.getElem?_map, hy]; rfl)
        have LD : Hid (∀ W, Below wr.heap.size wr W → W.cell? (ad.add k) = some (S x)) := Lib.hid fun W hW => (HW.out.trans (hW.mono hzr)).cell (by rw [add_block]; exact had) |>.trans a0
        have LE : Hid (∀ W, Below wr.heap.size wr W → W.cell? (bd.add k) = some (S y)) := Lib.hid fun W hW => (HW.out.trans (hW.mono hzr)).cell (by rw [add_block]; exact hbd) |>.trans b0
        clear a0 b0
        have q0 : (0 : Int) ≤ (k : Int) := by omega
        have q1 : (k : Int) < (a.length : Int) := by omega
        have q2 : (k : Int) < (b.length : Int) := by omega
        have d1 : decide ((k : Int) < (a.length : Int)) = true := decide_eq_true q1
        have d2 : decide (k < a.length) = true := decide_eq_true hlt
        obtain ⟨e, HEE⟩ : ∃ z, Hid (decide (x = y) = z) := ⟨_, Lib.hid rfl⟩
        clear hx hy
        go_upto_region 6 with (fail)
        refine' wp_region_sure (by kernel_rfl) (fun W => Below wr.heap.size wr W) 9 [_, _, _, _, _, _, _, _, .bool (!e)] [some 17, some 18, some 19, some 20, some 21, some 22, some 23, some 24, some 25] (by kernel_rfl) (by kernel_rfl) (by kernel_rfl) (by kernel_rfl) rfl (Below.refl _ _).drew ?hs
        case hs =>
          refine sure_cons ?_ ?_
          · intro L ac W K hed hJ hS hK
            have hA0 : ac.eval (.tmp 0) = .slice (some ad) a.length c := hJ.eval_old 0 (by kernel_rfl)
            clear hed hJ
            refine opStep_of rfl ?_
            unfold Oper.wp execOp
            have hN0 := evalN hA0
            go_simp
            exact hK _ hS
          refine sure_cons ?_ ?_
          · intro L ac W K hed hJ hS hK
            have hA5 : ac.eval (.tmp 5) = .int .i64 (k : Int) := hJ.eval_old 5 (by kernel_rfl)
            clear hed hJ
            refine opStep_of rfl ?_
            unfold Oper.wp execOp
            have hN5 := evalN hA5
            go_simp
            exact hK _ hS
          refine sure_cons ?_ ?_
          · intro L ac W K hed hJ hS hK
            have hn := needs_spec (l := [0, 1]) (by kernel_rfl) hed
            have hA17 := hJ.eval 0 (d := 17) (hn 0 (by simp)) rfl rfl rfl
            have hA18 := hJ.eval 1 (d := 18) (hn 1 (by simp)) rfl rfl rfl
            clear hed hJ hn
            refine opStep_of rfl ?_
            unfold Oper.wp execOp
            have hN17 := evalN hA17
            have hN18 := evalN hA18
            go_simp
            exact hK _ hS
          refine sure_cons ?_ ?_
          · intro L ac W K hed hJ hS hK
            have hn := needs_spec (l := [2]) (by kernel_rfl) hed
            have hA19 := hJ.eval 2 (d := 19) (hn 2 (by simp)) rfl rfl rfl
            clear hed hJ hn
            refine opStep_of rfl ?_
            have cc := LD.out W hS
            unfold Oper.wp execOp
            have hN19 := evalN hA19
            go_simp
            exact hK _ hS
          refine sure_cons ?_ ?_
          · intro L ac W K hed hJ hS hK
            have hA1 : ac.eval (.tmp 1) = .slice (some bd) b.length d := hJ.eval_old 1 (by kernel_rfl)
            clear hed hJ
            refine opStep_of rfl ?_
            unfold Oper.wp execOp
            have hN1 := evalN hA1
            go_simp
            exact hK _ hS
          refine sure_cons ?_ ?_
          · intro L ac W K hed hJ hS hK
            have hA5 : ac.eval (.tmp 5) = .int .i64 (k : Int) := hJ.eval_old 5 (by kernel_rfl)
            clear hed hJ
            refine opStep_of rfl ?_
            unfold Oper.wp execOp
            have hN5 := evalN hA5
            go_simp
            exact hK _ hS
          refine sure_cons ?_ ?_
          · intro L ac W K hed hJ hS hK
            have hn := needs_spec (l := [4, 5]) (by kernel_rfl) hed
            have hA21 := hJ.eval 4 (d := 21) (hn 4 (by simp)) rfl rfl rfl
            have hA22 := hJ.eval 5 (d := 22) (hn 5 (by simp)) rfl rfl rfl
            clear hed hJ hn
            refine opStep_of rfl ?_
            unfold Oper.wp execOp
            have hN21 := evalN hA21
            have hN22 := evalN hA22
            go_simp
            exact hK _ hS
          refine sure_cons ?_ ?_
          · intro L ac W K hed hJ hS hK
            have hn := needs_spec (l := [6]) (by kernel_rfl) hed
            have hA23 := hJ.eval 6 (d := 23) (hn 6 (by simp)) rfl rfl rfl
            clear hed hJ hn
            refine opStep_of rfl ?_
            have cc := LE.out W hS
            unfold Oper.wp execOp
            have hN23 := evalN hA23
            go_simp
            exact hK _ hS
          refine sure_cons ?_ ?_
          · intro L ac W K hed hJ hS hK
            have hn := needs_spec (l := [3, 7]) (by kernel_rfl) hed
            have hA20 := hJ.eval 3 (d := 20) (hn 3 (by simp)) rfl rfl rfl
            have hA24 := hJ.eval 7 (d := 24) (hn 7 (by simp)) rfl rfl rfl
            clear hed hJ hn
            refine opStep_of rfl ?_
            unfold Oper.wp execOp
            have hN20 := evalN hA20
            have hN24 := evalN hA24
            go_simp
            rw [show (x == y) = e by rw [← HEE.out]; by_cases h : x = y <;> simp [h]]
            exact hK _ hS
          refine sure_nil ?_
          intro W hS
          simp only [putAll, Act.put, List.setIfInBounds_toArray, List.set_cons_zero, List.set_cons_succ]
          have HR6 := Lib.hid (HW.out.trans (hS.mono hzr))
          clear hS
          cases e
          · have HD : Hid (decide (a = b) = false) := Lib.hid (HN.out (of_decide_eq_false HEE.out))
            go_wp2_with fail
            go_ret
            exact ⟨by rw [HD.out]; rfl, HR6.out⟩
          · have hxy : x = y := of_decide_eq_true HEE.out
            have HK : Hid (a.take (k + 1) = b.take (k + 1)) := Lib.hid (by rw [TA.out, TB.out, HE.out, hxy])
            clear hxy
            go_wp2_with fail
            go_roundw
            case rel =>
              have R : ∃ k' : Nat, k' ≤ a.length ∧ Value.int .i64 ((k : Int) + 1) = .int .i64 k' ∧ Hid (a.take k' = b.take k') ∧ Hid (Below w.heap.size w W) := ⟨k + 1, by omega, by go_num, HK, HR6⟩
              first | exact R | ((repeat apply Exists.intro); exact ⟨R, rfl⟩)
            case measure => simp [intOf]; omega
      · obtain rfl : k = a.length := by omega
        have hd : decide (a.length < a.length) = false := by simp
        have HQ : Hid (decide (a = b) = true) := Lib.hid (decide_eq_true (take_same HL.out HE.out))
        go_wp2_with fail
        go_ret
        exact ⟨by rw [HQ.out]; rfl, HW.out⟩
  · have n1 : ((a.length : Int) != (b.length : Int)) = true := by simp; omega
    have n2 : (a.length != b.length) = true := by simp [hl]
    have HQ : Hid (decide (a = b) = false) := Lib.hid (by rw [decide_eq_false_iff_not]; rintro rfl; exact hl rfl)
    clear hl
    go_enter Tryz.func19, Tryz.ntmps19
    go_wp2_with fail
    go_ret
    exact ⟨by rw [HQ.out]; rfl, Below.refl _ _⟩
set_option maxRecDepth 100000 in
set_option maxHeartbeats 1000000 in
theorem rsp_any (w : World) (A B : Option Addr) (c d : Nat) (a b : List Pr) (ha : ∀ p ∈ a, PrOk p) (hb : ∀ p ∈ b, PrOk p) (hA : Lies w w.heap.size A (a.flatMap prCells)) (hB : Lies w w.heap.size B (b.flatMap prCells)) (la : a.length ≤ 1099511627776) (lb : b.length ≤ 1099511627776) :
    Calls Tryz.prog 20 #[.slice A a.length c, .slice B b.length d] w fun e w' => e = .returned (.bool (decide (a = b))) ∧ Below w.heap.size w w' := by
  have HA := Lib.hid hA
  have HB := Lib.hid hB
  clear hA hB
  have HPA := Lib.hid ha
  have HPB := Lib.hid hb
  clear ha hb
  by_cases hl : a.length = b.length
  · have n1 : ((a.length : Int) != (b.length : Int)) = false := by simp [hl]
    have n2 : (a.length != b.length) = false := by simp [hl]
    have HL := Lib.hid hl
    clear hl
    go_enter Tryz.func20, Tryz.ntmps20
    go_wp2_with fail
    clear n1 n2
    go_loopw [5] (fun i wr => ∃ k : Nat, k ≤ a.length ∧ i = .int .i64 k ∧ Hid (a.take k = b.take k) ∧ Hid (Below w.heap.size w wr)) (fun i _ => a.length - (intOf i).toNat)
    case atStart => exact ⟨0, by omega, rfl, Lib.hid rfl, Lib.hid (Below.refl _ _)⟩
    case round =>
      obtain ⟨k, hk, rfl, HE, HW⟩ := hrel
      by_cases hlt : k < a.length
      · have hltb : k < b.length := by rw [← HL.out]; exact hlt
        obtain ⟨x, hx⟩ := get_some hlt
        obtain ⟨y, hy⟩ := get_some hltb
        have TA := Lib.hid (take_more hx)
        have TB := Lib.hid (take_more hy)
        have HN : Hid (x ≠ y → decide (a = b) = false) := Lib.hid (fun hne => by rw [decide_eq_false_iff_not]; rintro rfl; exact hne (Option.some.inj (hx.symm.trans hy)))
        have hzr := HW.out.size
        have HXO := Lib.hid (HPA.out x (List.mem_of_getElem? hx))
        have HYO := Lib.hid (HPB.out y (List.mem_of_getElem? hy))
        obtain ⟨ad, rfl, had, hc⟩ := Lies.row (f := prCells) (n := 96) HA.out (fun y hy => prCells_length (HPA.out y hy)) (by omega) hx
        obtain ⟨bd, rfl, hbd, hc'⟩ := Lies.row (f := prCells) (n := 96) HB.out (fun y hy => prCells_length (HPB.out y hy)) (by omega) hy
        have LD : Hid (∀ W, Below wr.heap.size wr W → ∀ j v, (prCells x)[j]? = some v → W.cell? ((ad.add (k * 96)).add j) = some v) := Lib.hid fun W hW j v hv => ((HW.out.trans (hW.mono hzr)).cell (by rw [add_block, add_block]; exact had)).trans (hc j v hv)
        have LE : Hid (∀ W, Below wr.heap.size wr W → ∀ j v, (prCells y)[j]? = some v → W.cell? ((bd.add (k * 96)).add j) = some v) := Lib.hid fun W hW j v hv => ((HW.out.trans (hW.mono hzr)).cell (by rw [add_block, add_block]; exact hbd)).trans (hc' j v hv)
        have PIX : Hid ((Tryz.prog.info? 44).map (·.size) = some (prCells x).length) := Lib.hid (by rw [show (prCells x).length = 96 from prCells_length HXO.out]; kernel_rfl)
        have PIY : Hid ((Tryz.prog.info? 44).map (·.size) = some (prCells y).length) := Lib.hid (by rw [show (prCells y).length = 96 from prCells_length HYO.out]; kernel_rfl)
        clear hc hc'
        have q0 : (0 : Int) ≤ (k : Int) := by omega
        have q1 : (k : Int) < (a.length : Int) := by omega
        have q2 : (k : Int) < (b.length : Int) := by omega
        have d1 : decide ((k : Int) < (a.length : Int)) = true := decide_eq_true q1
        have d2 : decide (k < a.length) = true := decide_eq_true hlt
        obtain ⟨e, HEE⟩ : ∃ z, Hid (decide (x = y) = z) := ⟨_, Lib.hid rfl⟩
        clear hx hy
        go_upto_region 6 with (fail)
        refine' wp_region_sure (by kernel_rfl) (fun W => Below wr.heap.size wr W) 9 [_, _, _, _, _, _, _, _, .bool (!e)] [some 17, some 18, some 19, some 20, some 21, some 22, some 23, some 24, some 25] (by kernel_rfl) (by kernel_rfl) (by kernel_rfl) (by kernel_rfl) rfl (Below.refl _ _).drew ?hs
        case hs =>
          refine sure_cons ?_ ?_
          · intro L ac W K hed hJ hS hK
            have hA0 : ac.eval (.tmp 0) = .slice (some ad) a.length c := hJ.eval_old 0 (by kernel_rfl)
            clear hed hJ
            refine opStep_of rfl ?_
            unfold Oper.wp execOp
            have hN0 := evalN hA0
            go_simp
            exact hK _ hS
          refine sure_cons ?_ ?_
          · intro L ac W K hed hJ hS hK
            have hA5 : ac.eval (.tmp 5) = .int .i64 (k : Int) := hJ.eval_old 5 (by kernel_rfl)
            clear hed hJ
            refine opStep_of rfl ?_
            unfold Oper.wp execOp
            have hN5 := evalN hA5
            go_simp
            exact hK _ hS
          refine sure_cons ?_ ?_
          · intro L ac W K hed hJ hS hK
            have hn := needs_spec (l := [0, 1]) (by kernel_rfl) hed
            have hA17 := hJ.eval 0 (d := 17) (hn 0 (by simp)) rfl rfl rfl
            have hA18 := hJ.eval 1 (d := 18) (hn 1 (by simp)) rfl rfl rfl
            clear hed hJ hn
            refine opStep_of rfl ?_
            unfold Oper.wp execOp
            have hN17 := evalN hA17
            have hN18 := evalN hA18
            go_simp
            exact hK _ hS
          refine sure_cons ?_ ?_
          · intro L ac W K hed hJ hS hK
            have hn := needs_spec (l := [2]) (by kernel_rfl) hed
            have hA19 := hJ.eval 2 (d := 19) (hn 2 (by simp)) rfl rfl rfl
            clear hed hJ hn
            refine opStep_of rfl ?_
            refine oper_load_at 44 (.tmp 19) rfl (ad.add (k * 96)) hA19 (prCells x) _ (LD.out W hS) Tryz.underlying44 rfl PIX.out ?_
            exact hK _ hS
          refine sure_cons ?_ ?_
          · intro L ac W K hed hJ hS hK
            have hA1 : ac.eval (.tmp 1) = .slice (some bd) b.length d := hJ.eval_old 1 (by kernel_rfl)
            clear hed hJ
            refine opStep_of rfl ?_
            unfold Oper.wp execOp
            have hN1 := evalN hA1
            go_simp
            exact hK _ hS
          refine sure_cons ?_ ?_
          · intro L ac W K hed hJ hS hK
            have hA5 : ac.eval (.tmp 5) = .int .i64 (k : Int) := hJ.eval_old 5 (by kernel_rfl)
            clear hed hJ
            refine opStep_of rfl ?_
            unfold Oper.wp execOp
            have hN5 := evalN hA5
            go_simp
            exact hK _ hS
          refine sure_cons ?_ ?_
          · intro L ac W K hed hJ hS hK
            have hn := needs_spec (l := [4, 5]) (by kernel_rfl) hed
            have hA21 := hJ.eval 4 (d := 21) (hn 4 (by simp)) rfl rfl rfl
            have hA22 := hJ.eval 5 (d := 22) (hn 5 (by simp)) rfl rfl rfl
            clear hed hJ hn
            refine opStep_of rfl ?_
            unfold Oper.wp execOp
            have hN21 := evalN hA21
            have hN22 := evalN hA22
            go_simp
            exact hK _ hS
          refine sure_cons ?_ ?_
          · intro L ac W K hed hJ hS hK
            have hn := needs_spec (l := [6]) (by kernel_rfl) hed
            have hA23 := hJ.eval 6 (d := 23) (hn 6 (by simp)) rfl rfl rfl
            clear hed hJ hn
            refine opStep_of rfl ?_
            refine oper_load_at 44 (.tmp 23) rfl (bd.add (k * 96)) hA23 (prCells y) _ (LE.out W hS) Tryz.underlying44 rfl PIY.out ?_
            exact hK _ hS
          refine sure_cons ?_ ?_
          · intro L ac W K hed hJ hS hK
            have hn := needs_spec (l := [3, 7]) (by kernel_rfl) hed
            have hA20 := hJ.eval 3 (d := 20) (hn 3 (by simp)) rfl rfl rfl
            have hA24 := hJ.eval 7 (d := 24) (hn 7 (by simp)) rfl rfl rfl
            clear hed hJ hn
            refine opStep_of rfl ?_
            refine oper_neq_agg 44 (.tmp 20) (.tmp 24) rfl (prCells x).toArray (prCells y).toArray hA20 hA24 (by kernel_rfl) (!e) (by have h := pr_neqv W HXO.out HYO.out; rw [HEE.out] at h; exact h) ?_
            exact hK _ hS
          refine sure_nil ?_
          intro W hS
          simp only [putAll, Act.put, List.setIfInBounds_toArray, List.set_cons_zero, List.set_cons_succ]
          have HR6 := Lib.hid (HW.out.trans (hS.mono hzr))
          clear hS
          cases e
          · have HD : Hid (decide (a = b) = false) := Lib.hid (HN.out (of_decide_eq_false HEE.out))
            go_wp2_with fail
            go_ret
            exact ⟨by rw [HD.out]; rfl, HR6.out⟩
          · have hxy : x = y := of_decide_eq_true HEE.out
            have HK : Hid (a.take (k + 1) = b.take (k + 1)) := Lib.hid (by rw [TA.out, TB.out, HE.out, hxy])
            clear hxy
            go_wp2_with fail
            go_roundw
            case rel =>
              have R : ∃ k' : Nat, k' ≤ a.length ∧ Value.int .i64 ((k : Int) + 1) = .int .i64 k' ∧ Hid (a.take k' = b.take k') ∧ Hid (Below w.heap.size w W) := ⟨k + 1, by omega, by go_num, HK, HR6⟩
              first | exact R | ((repeat apply Exists.intro); exact ⟨R, rfl⟩)
            case measure => simp [intOf]; omega
      · obtain rfl : k = a.length := by omega
        have hd : decide (a.length < a.length) = false := by simp
        have HQ : Hid (decide (a = b) = true) := Lib.hid (decide_eq_true (take_same HL.out HE.out))
        go_wp2_with fail
        go_ret
        exact ⟨by rw [HQ.out]; rfl, HW.out⟩
  · have n1 : ((a.length : Int) != (b.length : Int)) = true := by simp; omega
    have n2 : (a.length != b.length) = true := by simp [hl]
    have HQ : Hid (decide (a = b) = false) := Lib.hid (by rw [decide_eq_false_iff_not]; rintro rfl; exact hl rfl)
    clear hl
    go_enter Tryz.func20, Tryz.ntmps20
    go_wp2_with fail
    go_ret
    exact ⟨by rw [HQ.out]; rfl, Below.refl _ _⟩
set_option maxRecDepth 100000 in
set_option maxHeartbeats 1000000 in
theorem rwr_any (w : World) (A B : Option Addr) (c d : Nat) (a b : List Nb) (hA : Lies w w.heap.size A (a.flatMap nbCells1)) (hB : Lies w w.heap.size B (b.flatMap nbCells1)) (la : a.length ≤ 1099511627776) (lb : b.length ≤ 1099511627776) :
    Calls Tryz.prog 21 #[.slice A a.length c, .slice B b.length d] w fun e w' => e = .returned (.bool (decide (a = b))) ∧ Below w.heap.size w w' := by
  have HA := Lib.hid hA
  have HB := Lib.hid hB
  clear hA hB
  by_cases hl : a.length = b.length
  · have n1 : ((a.length : Int) != (b.length : Int)) = false := by simp [hl]
    have n2 : (a.length != b.length) = false := by simp [hl]
    have HL := Lib.hid hl
    clear hl
    go_enter Tryz.func21, Tryz.ntmps21
    go_wp2_with fail
    clear n1 n2
    go_loopw [5] (fun i wr => ∃ k : Nat, k ≤ a.length ∧ i = .int .i64 k ∧ Hid (a.take k = b.take k) ∧ Hid (Below w.heap.size w wr)) (fun i _ => a.length - (intOf i).toNat)
    case atStart => exact ⟨0, by omega, rfl, Lib.hid rfl, Lib.hid (Below.refl _ _)⟩
    case round =>
      obtain ⟨k, hk, rfl, HE, HW⟩ := hrel
      by_cases hlt : k < a.length
      · have hltb : k < b.length := by rw [← HL.out]; exact hlt
        obtain ⟨x, hx⟩ := get_some hlt
        obtain ⟨y, hy⟩ := get_some hltb
        have TA := Lib.hid (take_more hx)
        have TB := Lib.hid (take_more hy)
        have HN : Hid (x ≠ y → decide (a = b) = false) := Lib.hid (fun hne => by rw [decide_eq_false_iff_not]; rintro rfl; exact hne (Option.some.inj (hx.symm.trans hy)))
        have hzr := HW.out.size
        obtain ⟨ad, rfl, had, hc⟩ := Lies.row (f := nbCells1) (n := 2) HA.out (fun _ _ => rfl) (by omega) hx
        obtain ⟨bd, rfl, hbd, hc'⟩ := Lies.row (f := nbCells1) (n := 2) HB.out (fun _ _ => rfl) (by omega) hy
        have LD : Hid (∀ W, Below wr.heap.size wr W → ∀ j v, (nbCells1 x)[j]? = some v → W.cell? ((ad.add (k * 2)).add j) = some v) := Lib.hid fun W hW j v hv => ((HW.out.trans (hW.mono hzr)).cell (by rw [add_block, add_block]; exact had)).trans (hc j v hv)
        have LE : Hid (∀ W, Below wr.heap.size wr W → ∀ j v, (nbCells1 y)[j]? = some v → W.cell? ((bd.add (k * 2)).add j) = some v) := Lib.hid fun W hW j v hv => ((HW.out.trans (hW.mono hzr)).cell (by rw [add_block, add_block]; exact hbd)).trans (hc' j v hv)
        have PIX : Hid ((Tryz.prog.info? 48).map (·.size) = some (nbCells1 x).length) := Lib.hid (by rw [show (nbCells1 x).length = 2 from rfl]; kernel_rfl)
        have PIY : Hid ((Tryz.prog.info? 48).map (·.size) = some (nbCells1 y).length) := Lib.hid (by rw [show (nbCells1 y).length = 2 from rfl]; kernel_rfl)
        clear hc hc'
        have q0 : (0 : Int) ≤ (k : Int) := by omega
        have q1 : (k : Int) < (a.length : Int) := by omega
        have q2 : (k : Int) < (b.length : Int) := by omega
        have d1 : decide ((k : Int) < (a.length : Int)) = true := decide_eq_true q1
        have d2 : decide (k < a.length) = true := decide_eq_true hlt
        obtain ⟨e, HEE⟩ : ∃ z, Hid (decide (x = y) = z) := ⟨_, Lib.hid rfl⟩
        clear hx hy
        go_upto_region 6 with (fail)
        refine' wp_region_sure (by kernel_rfl) (fun W => Below wr.heap.size wr W) 9 [_, _, _, _, _, _, _, _, .bool (!e)] [some 17, some 18, some 19, some 20, some 21, some 22, some 23, some 24, some 25] (by kernel_rfl) (by kernel_rfl) (by kernel_rfl) (by kernel_rfl) rfl (Below.refl _ _).drew ?hs
        case hs =>
          refine sure_cons ?_ ?_
          · intro L ac W K hed hJ hS hK
            have hA0 : ac.eval (.tmp 0) = .slice (some ad) a.length c := hJ.eval_old 0 (by kernel_rfl)
            clear hed hJ
            refine opStep_of rfl ?_
            unfold Oper.wp execOp
            have hN0 := evalN hA0
            go_simp
            exact hK _ hS
          refine sure_cons ?_ ?_
          · intro L ac W K hed hJ hS hK
            have hA5 : ac.eval (.tmp 5) = .int .i64 (k : Int) := hJ.eval_old 5 (by kernel_rfl)
            clear hed hJ
            refine opStep_of rfl ?_
            unfold Oper.wp execOp
            have hN5 := evalN hA5
            go_simp
            exact hK _ hS
          refine sure_cons ?_ ?_
          · intro L ac W K hed hJ hS hK
            have hn := needs_spec (l := [0, 1]) (by kernel_rfl) hed
            have hA17 := hJ.eval 0 (d := 17) (hn 0 (by simp)) rfl rfl rfl
            have hA18 := hJ.eval 1 (d := 18) (hn 1 (by simp)) rfl rfl rfl
            clear hed hJ hn
            refine opStep_of rfl ?_
            unfold Oper.wp execOp
            have hN17 := evalN hA17
            have hN18 := evalN hA18
            go_simp
            exact hK _ hS
          refine sure_cons ?_ ?_
          · intro L ac W K hed hJ hS hK
            have hn := needs_spec (l := [2]) (by kernel_rfl) hed
            have hA19 := hJ.eval 2 (d := 19) (hn 2 (by simp)) rfl rfl rfl
            clear hed hJ hn
            refine opStep_of rfl ?_
            refine oper_load_at 48 (.tmp 19) rfl (ad.add (k * 2)) hA19 (nbCells1 x) _ (LD.out W hS) Tryz.underlying48 rfl PIX.out ?_
            exact hK _ hS
          refine sure_cons ?_ ?_
          · intro L ac W K hed hJ hS hK
            have hA1 : ac.eval (.tmp 1) = .slice (some bd) b.length d := hJ.eval_old 1 (by kernel_rfl)
            clear hed hJ
            refine opStep_of rfl ?_
            unfold Oper.wp execOp
            have hN1 := evalN hA1
            go_simp
            exact hK _ hS
          refine sure_cons ?_ ?_
          · intro L ac W K hed hJ hS hK
            have hA5 : ac.eval (.tmp 5) = .int .i64 (k : Int) := hJ.eval_old 5 (by kernel_rfl)
            clear hed hJ
            refine opStep_of rfl ?_
            unfold Oper.wp execOp
            have hN5 := evalN hA5
            go_simp
            exact hK _ hS
          refine sure_cons ?_ ?_
          · intro L ac W K hed hJ hS hK
            have hn := needs_spec (l := [4, 5]) (by kernel_rfl) hed
            have hA21 := hJ.eval 4 (d := 21) (hn 4 (by simp)) rfl rfl rfl
            have hA22 := hJ.eval 5 (d := 22) (hn 5 (by simp)) rfl rfl rfl
            clear hed hJ hn
            refine opStep_of rfl ?_
            unfold Oper.wp execOp
            have hN21 := evalN hA21
            have hN22 := evalN hA22
            go_simp
            exact hK _ hS
          refine sure_cons ?_ ?_
          · intro L ac W K hed hJ hS hK
            have hn := needs_spec (l := [6]) (by kernel_rfl) hed
            have hA23 := hJ.eval 6 (d := 23) (hn 6 (by simp)) rfl rfl rfl
            clear hed hJ hn
            refine opStep_of rfl ?_
            refine oper_load_at 48 (.tmp 23) rfl (bd.add (k * 2)) hA23 (nbCells1 y) _ (LE.out W hS) Tryz.underlying48 rfl PIY.out ?_
            exact hK _ hS
          refine sure_cons ?_ ?_
          · intro L ac W K hed hJ hS hK
            have hn := needs_spec (l := [3, 7]) (by kernel_rfl) hed
            have hA20 := hJ.eval 3 (d := 20) (hn 3 (by simp)) rfl rfl rfl
            have hA24 := hJ.eval 7 (d := 24) (hn 7 (by simp)) rfl rfl rfl
            clear hed hJ hn
            refine opStep_of rfl ?_
            refine oper_neq_agg 48 (.tmp 20) (.tmp 24) rfl (nbCells1 x).toArray (nbCells1 y).toArray hA20 hA24 (by kernel_rfl) (!e) (by have h := nb_neqv_wr W x y; rw [HEE.out] at h; exact h) ?_
            exact hK _ hS
          refine sure_nil ?_
          intro W hS
          simp only [putAll, Act.put, List.setIfInBounds_toArray, List.set_cons_zero, List.set_cons_succ]
          have HR6 := Lib.hid (HW.out.trans (hS.mono hzr))
          clear hS
          cases e
          · have HD : Hid (decide (a = b) = false) := Lib.hid (HN.out (of_decide_eq_false HEE.out))
            go_wp2_with fail
            go_ret
            exact ⟨by rw [HD.out]; rfl, HR6.out⟩
          · have hxy : x = y := of_decide_eq_true HEE.out
            have HK : Hid (a.take (k + 1) = b.take (k + 1)) := Lib.hid (by rw [TA.out, TB.out, HE.out, hxy])
            clear hxy
            go_wp2_with fail
            go_roundw
            case rel =>
              have R : ∃ k' : Nat, k' ≤ a.length ∧ Value.int .i64 ((k : Int) + 1) = .int .i64 k' ∧ Hid (a.take k' = b.take k') ∧ Hid (Below w.heap.size w W) := ⟨k + 1, by omega, by go_num, HK, HR6⟩
              first | exact R | ((repeat apply Exists.intro); exact ⟨R, rfl⟩)
            case measure => simp [intOf]; omega
      · obtain rfl : k = a.length := by omega
        have hd : decide (a.length < a.length) = false := by simp
        have HQ : Hid (decide (a = b) = true) := Lib.hid (decide_eq_true (take_same HL.out HE.out))
        go_wp2_with fail
        go_ret
        exact ⟨by rw [HQ.out]; rfl, HW.out⟩
  · have n1 : ((a.length : Int) != (b.length : Int)) = true := by simp; omega
    have n2 : (a.length != b.length) = true := by simp [hl]
    have HQ : Hid (decide (a = b) = false) := Lib.hid (by rw [decide_eq_false_iff_not]; rintro rfl; exact hl rfl)
    clear hl
    go_enter Tryz.func21, Tryz.ntmps21
    go_wp2_with fail
    go_ret
    exact ⟨by rw [HQ.out]; rfl, Below.refl _ _⟩
end Go.Proofs.YtfdflkddmgninaaGreatDoor
