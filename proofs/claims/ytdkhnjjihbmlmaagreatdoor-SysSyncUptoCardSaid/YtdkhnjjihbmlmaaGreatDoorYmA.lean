import Derived.Test.YtdkhnjjihbmlmaaGreatDoorMcA
import Derived.Test.YtdkhnjjihbmlmaaGreatDoorSureA
import Derived.DeepKeys
namespace Go.Proofs.YtdkhnjjihbmlmaaGreatDoor
open Go.RowKit
theorem list16' {α : Type} : ∀ l : List α,l.length = 16 → ∃ x0 x1 x2 x3 x4 x5 x6 x7 x8 x9 x10 x11 x12 x13 x14 x15,l = [x0,x1,x2,x3,x4,x5,x6,x7,x8,x9,x10,x11,x12,x13,x14,x15]
 | [x0,x1,x2,x3,x4,x5,x6,x7,x8,x9,x10,x11,x12,x13,x14,x15],_ => ⟨x0,x1,x2,x3,x4,x5,x6,x7,x8,x9,x10,x11,x12,x13,x14,x15,rfl⟩
theorem list8' {α : Type} : ∀ l : List α,l.length = 8 → ∃ x0 x1 x2 x3 x4 x5 x6 x7,l = [x0,x1,x2,x3,x4,x5,x6,x7]
 | [x0,x1,x2,x3,x4,x5,x6,x7],_ => ⟨x0,x1,x2,x3,x4,x5,x6,x7,rfl⟩
def litOf : Value → Lit
 | .int k n => .int k n
 | .bool b => .bool b
 | .string s => .string s.data.toList
 | _ => .bool false
def isKey : Value → Bool
 | .int _ _ => true
 | .bool _ => true
 | _ => false
theorem litOf_inj : ∀ {a b : Value},isKey a = true → isKey b = true → litOf a = litOf b → a = b:=by
 intro a b ha hb h;cases a <;> cases b <;> simp [isKey,litOf] at ha hb h ⊢ <;> first | exact h | (cases h)
theorem mapLit_inj : ∀ {a b : List Value},(∀ v ∈ a,isKey v = true) → (∀ v ∈ b,isKey v = true) → a.map litOf = b.map litOf → a = b
 | [],[],_,_,_ => rfl
 | [],_ :: _,_,_,h => by simp at h
 | _ :: _,[],_,_,h => by simp at h
 | x :: a,y :: b,ha,hb,h => by
  simp only [List.map_cons,List.cons.injEq] at h;rw [litOf_inj (ha x (by simp)) (hb y (by simp)) h.1,mapLit_inj (fun v hv => ha v (by simp [hv])) (fun v hv => hb v (by simp [hv])) h.2]
def KL (d : Nat) (t : TypeId) (cs : List Value) : Prop:=Tryz.prog.keyLits d t cs = some (cs.map litOf)
def KLs (d : Nat) (cs : List Value) : List Field → Prop
 | [] => True
 | f :: r => KL d f.type ((cs.drop f.offset).take (Tryz.prog.cellsOf f.type)) ∧ KLs d cs r
theorem mapM_of {α β : Type} (f : α → Option β) (g : α → β) : ∀ l : List α,(∀ x ∈ l,f x = some (g x)) → l.mapM f = some (l.map g)
 | [],_ => rfl
 | a :: l,h => by
  rw [List.mapM_cons,h a (by simp),mapM_of f g l fun x hx => h x (by simp [hx])];rfl
theorem kls_all {d : Nat} {cs : List Value} : ∀ {l : List Field},KLs d cs l → ∀ f ∈ l,KL d f.type ((cs.drop f.offset).take (Tryz.prog.cellsOf f.type))
 | [],_,f,hf => by simp at hf
 | g :: l,h,f,hf => (List.mem_cons.1 hf).elim (fun e => e ▸ h.1) (kls_all h.2 f)
theorem kl_struct {d : Nat} {t : TypeId} {fs : Array Field} {cs : List Value} (hu : Tryz.prog.underlying t = some (.struct fs)) (hl : cs.length = Tryz.prog.cellsOf t) (hn : (fs.all fun f => f.name != "_") = true) (h : KLs d cs fs.toList)
  (hc : (fs.toList.map fun f => (cs.drop f.offset).take (Tryz.prog.cellsOf f.type)).flatten = cs) : KL (d + 1) t cs:=by
 have h2 : (fs.toList.mapM fun f => Tryz.prog.keyLits d f.type ((cs.drop f.offset).take (Tryz.prog.cellsOf f.type))) = some ((fs.toList.map fun f => (cs.drop f.offset).take (Tryz.prog.cellsOf f.type)).map (List.map litOf)):=(by rw [List.map_map];exact mapM_of _ (List.map litOf ∘ fun f : Field => (cs.drop f.offset).take (Tryz.prog.cellsOf f.type)) _ fun f hf => (by have e:=kls_all h f hf;unfold KL at e;rw [Function.comp_apply,e]));unfold KL Program.keyLits;simp only [hu];rw [if_pos ⟨hl,hn⟩,h2,Option.map_some,← List.map_flatten,hc]
theorem chunks_all {k : Nat} : ∀ (n : Nat) (cs : List Value),cs.length = n * k → ((List.range n).map fun i => (cs.drop (i * k)).take k).flatten = cs
 | 0,cs,h => by simp at h;subst h;rfl
 | n + 1,cs,h => by
  have ih:=chunks_all (k:=k) n (cs.drop k) (by rw [List.length_drop,h,Nat.add_mul];omega);rw [List.range_succ_eq_map,List.map_cons,List.map_map,List.flatten_cons,Nat.zero_mul,List.drop_zero]
  have e : ((fun i => (cs.drop (i * k)).take k) ∘ Nat.succ) = fun i => ((cs.drop k).drop (i * k)).take k:=by
   funext i
   simp only [Function.comp,List.drop_drop];rw [show k + i * k = i.succ * k by rw [Nat.succ_mul];omega]
  rw [e,ih,List.take_append_drop]
theorem kl_array {d n k : Nat} {t e : TypeId} {cs : List Value} (hu : Tryz.prog.underlying t = some (.array n e)) (hk : Tryz.prog.cellsOf e = k) (hl : cs.length = Tryz.prog.cellsOf t) (hnk : cs.length = n * k) (h : ∀ i,i < n → KL d e ((cs.drop (i * k)).take k)) : KL (d + 1) t cs:=by
 have h2 : ((List.range n).mapM fun i => Tryz.prog.keyLits d e ((cs.drop (i * k)).take k)) = some (((List.range n).map fun i => (cs.drop (i * k)).take k).map (List.map litOf)):=(by rw [List.map_map];exact mapM_of _ (List.map litOf ∘ fun i => (cs.drop (i * k)).take k) _ fun i hi => (by have e:=h i (List.mem_range.1 hi);unfold KL at e;rw [Function.comp_apply,e]));unfold KL Program.keyLits;simp only [hu,hk];rw [if_pos hl,h2,Option.map_some,← List.map_flatten,chunks_all n cs hnk]
theorem kl_int {d : Nat} {t : TypeId} {k : IntKind} {n : Int} (hu : Tryz.prog.underlying t = some (.int k)) (h : (Lit.int k n).wf = true) : KL (d + 1) t [.int k n]:=by
 unfold KL;simp [Program.keyLits,hu,h,litOf]
theorem kl_bool {d : Nat} {t : TypeId} {b : Bool} (hu : Tryz.prog.underlying t = some .bool) : KL (d + 1) t [.bool b]:=by
 unfold KL Program.keyLits;simp only [hu];rfl
theorem wf_u32 {n : Int} (h : inU32 n) : (Lit.int .u32 n).wf = true:=by
 simp only [Lit.wf,Bool.and_eq_true,decide_eq_true_eq];exact h
theorem wf_u64 {n : Int} (h : inU64 n) : (Lit.int .u64 n).wf = true:=by
 simp only [Lit.wf,Bool.and_eq_true,decide_eq_true_eq];exact h
theorem wf_j8 {n : Int} (h : inJ8 n) : (Lit.int .i64 n).wf = true:=by
 simp only [Lit.wf,Bool.and_eq_true,decide_eq_true_eq];exact h
theorem flat_chunk {α : Type} (f : α → List Value) (k : Nat) : ∀ (l : List α),(∀ x ∈ l,(f x).length = k) → ∀ i (hi : i < l.length),((l.flatMap f).drop (i * k)).take k = f l[i]
 | [],_,i,hi => by simp at hi
 | a :: l,h,0,_ => by
  have:=h a (by simp);rw [Nat.zero_mul,List.drop_zero,List.flatMap_cons,List.take_append_of_le_length (by omega),List.take_of_length_le (by omega)];rfl
 | a :: l,h,i + 1,hi => by
  have ha:=h a (by simp);have ih:=flat_chunk f k l (fun x hx => h x (by simp [hx])) i (by simpa using hi);rw [List.flatMap_cons,show (i + 1) * k = k + i * k by rw [Nat.add_mul];omega,← List.drop_drop];rw [show (f a ++ l.flatMap f).drop k = l.flatMap f by rw [← ha];simp];exact ih
theorem kl_pg (g : Pg) (h : inJ8 g.frame) : KL 6 41 (pgCells1 g):=by
 have k0 : KL 5 4 (((pgCells1 g).drop 0).take (Tryz.prog.cellsOf 4)):=(by rw [show Tryz.prog.cellsOf 4 = 1 by kernel_rfl];exact (show KL 5 4 ([.bool g.is]) from kl_bool Tryz.underlying4));have k1 : KL 5 4 (((pgCells1 g).drop 1).take (Tryz.prog.cellsOf 4)):=(by rw [show Tryz.prog.cellsOf 4 = 1 by kernel_rfl];exact (show KL 5 4 ([.bool g.wr]) from kl_bool Tryz.underlying4));have k2 : KL 5 3 (((pgCells1 g).drop 2).take (Tryz.prog.cellsOf 3)):=(by rw [show Tryz.prog.cellsOf 3 = 1 by kernel_rfl];exact (show KL 5 3 ([.int .i64 g.frame]) from kl_int Tryz.underlying3 (wf_j8 h)));exact kl_struct Tryz.underlying41 (by kernel_rfl) (by kernel_rfl) ⟨k0,k1,k2,trivial⟩ (by kernel_rfl)
theorem kl_fl (g : Fl) (h : inJ8 g.kind ∧ inJ8 g.n ∧ inJ8 g.pos) : KL 6 45 (flCells1 g):=by
 have k0 : KL 5 3 (((flCells1 g).drop 0).take (Tryz.prog.cellsOf 3)):=(by rw [show Tryz.prog.cellsOf 3 = 1 by kernel_rfl];exact (show KL 5 3 ([.int .i64 g.kind]) from kl_int Tryz.underlying3 (wf_j8 h.1)));have k1 : KL 5 3 (((flCells1 g).drop 1).take (Tryz.prog.cellsOf 3)):=(by rw [show Tryz.prog.cellsOf 3 = 1 by kernel_rfl];exact (show KL 5 3 ([.int .i64 g.n]) from kl_int Tryz.underlying3 (wf_j8 h.2.1)));have k2 : KL 5 3 (((flCells1 g).drop 2).take (Tryz.prog.cellsOf 3)):=(by rw [show Tryz.prog.cellsOf 3 = 1 by kernel_rfl];exact (show KL 5 3 ([.int .i64 g.pos]) from kl_int Tryz.underlying3 (wf_j8 h.2.2)));exact kl_struct Tryz.underlying45 (by kernel_rfl) (by kernel_rfl) ⟨k0,k1,k2,trivial⟩ (by kernel_rfl)
theorem kl_regs (l : List Int) (hl : l.length = 16) (h : ∀ r ∈ l,inU32 r) : KL 6 37 (rgCells l):=by
 refine kl_array (k:=1) Tryz.underlying37 (by kernel_rfl) (by rw [show Tryz.prog.cellsOf 37 = 16 by kernel_rfl];simp [rgCells,hl]) (by simp [rgCells,hl]) fun i hi => ?_;have e:=flat_chunk (fun n : Int => [Value.int .u32 n]) 1 l (fun _ _ => rfl) i (by omega);rw [← List.map_eq_flatMap] at e;change ((rgCells l).drop (i * 1)).take 1 = _ at e;rw [e];exact (fun {n} (q : inU32 n) => (kl_int Tryz.underlying36 (wf_u32 q) : KL 5 36 [.int .u32 n])) (h _ (List.getElem_mem _))
theorem kl_space (l : List Pg) (hl : l.length = 16) (h : ∀ g ∈ l,inJ8 g.frame) : KL 7 43 (pgCells l):=by
 refine kl_array (k:=3) Tryz.underlying43 (by kernel_rfl) (by rw [show Tryz.prog.cellsOf 43 = 48 by kernel_rfl];simp [pgCells_length,hl]) (by simp [pgCells_length,hl]) fun i hi => ?_;have e:=flat_chunk pgCells1 3 l (fun _ _ => rfl) i (by omega)
 skip
 change ((pgCells l).drop (i * 3)).take 3 = _ at e;rw [e];exact kl_pg _ (h _ (List.getElem_mem _))
theorem kl_fds (l : List Fl) (hl : l.length = 8) (h : ∀ g ∈ l,inJ8 g.kind ∧ inJ8 g.n ∧ inJ8 g.pos) : KL 7 46 (flCells l):=by
 refine kl_array (k:=3) Tryz.underlying46 (by kernel_rfl) (by rw [show Tryz.prog.cellsOf 46 = 24 by kernel_rfl];simp [flCells_length,hl]) (by simp [flCells_length,hl]) fun i hi => ?_;have e:=flat_chunk flCells1 3 l (fun _ _ => rfl) i (by omega)
 skip
 change ((flCells l).drop (i * 3)).take 3 = _ at e;rw [e];exact kl_fl _ (h _ (List.getElem_mem _))
set_option maxRecDepth 100000 in
theorem kl_cpu (l : List Int) (pc : Int) (hl : l.length = 16) (h : ∀ r ∈ l,inU32 r) (hp : inU32 pc) : KL 7 39 (rgCells l ++ [Value.int .u32 pc]):=by
 have hg : (rgCells l).length = 16:=(by simp [rgCells,hl]);have k0 : KL 6 37 (((rgCells l ++ [Value.int .u32 pc]).drop 0).take (Tryz.prog.cellsOf 37)):=(by rw [show Tryz.prog.cellsOf 37 = 16 by kernel_rfl,List.drop_zero,List.take_append_of_le_length (by omega),List.take_of_length_le (by omega)];exact (show KL 6 37 (rgCells l) from kl_regs l hl h));have k1 : KL 6 36 (((rgCells l ++ [Value.int .u32 pc]).drop 16).take (Tryz.prog.cellsOf 36)):=(by rw [show Tryz.prog.cellsOf 36 = 1 by kernel_rfl,List.drop_append_of_le_length (by omega),List.drop_of_length_le (by omega),List.nil_append];exact (show KL 6 36 ([Value.int .u32 pc]) from kl_int Tryz.underlying36 (wf_u32 hp)));have hl2 : (rgCells l ++ [Value.int .u32 pc]).length = Tryz.prog.cellsOf 39:=(by rw [show Tryz.prog.cellsOf 39 = 17 by kernel_rfl];simp [hg]);obtain ⟨r0,r1,r2,r3,r4,r5,r6,r7,r8,r9,r10,r11,r12,r13,r14,r15,rfl⟩:=list16' l hl;exact kl_struct Tryz.underlying39 hl2 (by kernel_rfl) ⟨k0,k1,trivial⟩ (by kernel_rfl)
set_option maxRecDepth 100000 in
set_option maxHeartbeats 4000000 in
theorem pr_kl {p : Pr} (hp : PrOk p) : KL 8 48 (prCells p) ∧ (Value.agg (prCells p).toArray).formed Tryz.prog 48 = true:=by
 obtain ⟨pid,par,st,rg,pc,sp,fl,mk,cd,wy,nn⟩:=p;obtain ⟨r0,r1,r2,r3,r4,r5,r6,r7,r8,r9,r10,r11,r12,r13,r14,r15,rfl⟩:=list16' rg hp.regs;obtain ⟨g0,g1,g2,g3,g4,g5,g6,g7,g8,g9,g10,g11,g12,g13,g14,g15,rfl⟩:=list16' sp hp.space;obtain ⟨f0,f1,f2,f3,f4,f5,f6,f7,rfl⟩:=list8' fl hp.fds;have k0 : KL 7 3 (((prCells ⟨pid,par,st,[r0,r1,r2,r3,r4,r5,r6,r7,r8,r9,r10,r11,r12,r13,r14,r15],pc,[g0,g1,g2,g3,g4,g5,g6,g7,g8,g9,g10,g11,g12,g13,g14,g15],[f0,f1,f2,f3,f4,f5,f6,f7],mk,cd,wy,nn⟩).drop 0).take (Tryz.prog.cellsOf 3)):=(by rw [show Tryz.prog.cellsOf 3 = 1 by kernel_rfl];exact (show KL 7 3 ([.int .i64 pid]) from kl_int Tryz.underlying3 (wf_j8 hp.pid)));have k1 : KL 7 3 (((prCells ⟨pid,par,st,[r0,r1,r2,r3,r4,r5,r6,r7,r8,r9,r10,r11,r12,r13,r14,r15],pc,[g0,g1,g2,g3,g4,g5,g6,g7,g8,g9,g10,g11,g12,g13,g14,g15],[f0,f1,f2,f3,f4,f5,f6,f7],mk,cd,wy,nn⟩).drop 1).take (Tryz.prog.cellsOf 3)):=(by rw [show Tryz.prog.cellsOf 3 = 1 by kernel_rfl];exact (show KL 7 3 ([.int .i64 par]) from kl_int Tryz.underlying3 (wf_j8 hp.parent)));have k2 : KL 7 3 (((prCells ⟨pid,par,st,[r0,r1,r2,r3,r4,r5,r6,r7,r8,r9,r10,r11,r12,r13,r14,r15],pc,[g0,g1,g2,g3,g4,g5,g6,g7,g8,g9,g10,g11,g12,g13,g14,g15],[f0,f1,f2,f3,f4,f5,f6,f7],mk,cd,wy,nn⟩).drop 2).take (Tryz.prog.cellsOf 3)):=(by rw [show Tryz.prog.cellsOf 3 = 1 by kernel_rfl];exact (show KL 7 3 ([.int .i64 st]) from kl_int Tryz.underlying3 (wf_j8 hp.state)));have k3 : KL 7 39 (((prCells ⟨pid,par,st,[r0,r1,r2,r3,r4,r5,r6,r7,r8,r9,r10,r11,r12,r13,r14,r15],pc,[g0,g1,g2,g3,g4,g5,g6,g7,g8,g9,g10,g11,g12,g13,g14,g15],[f0,f1,f2,f3,f4,f5,f6,f7],mk,cd,wy,nn⟩).drop 3).take (Tryz.prog.cellsOf 39)):=(by rw [show Tryz.prog.cellsOf 39 = 17 by kernel_rfl];exact (show KL 7 39 (rgCells [r0,r1,r2,r3,r4,r5,r6,r7,r8,r9,r10,r11,r12,r13,r14,r15] ++ [.int .u32 pc]) from kl_cpu _ _ rfl hp.reg hp.pc));have k4 : KL 7 43 (((prCells ⟨pid,par,st,[r0,r1,r2,r3,r4,r5,r6,r7,r8,r9,r10,r11,r12,r13,r14,r15],pc,[g0,g1,g2,g3,g4,g5,g6,g7,g8,g9,g10,g11,g12,g13,g14,g15],[f0,f1,f2,f3,f4,f5,f6,f7],mk,cd,wy,nn⟩).drop 20).take (Tryz.prog.cellsOf 43)):=(by rw [show Tryz.prog.cellsOf 43 = 48 by kernel_rfl];exact (show KL 7 43 (pgCells [g0,g1,g2,g3,g4,g5,g6,g7,g8,g9,g10,g11,g12,g13,g14,g15]) from kl_space _ rfl hp.page))
 have k5 : KL 7 46 (((prCells ⟨pid,par,st,[r0,r1,r2,r3,r4,r5,r6,r7,r8,r9,r10,r11,r12,r13,r14,r15],pc,[g0,g1,g2,g3,g4,g5,g6,g7,g8,g9,g10,g11,g12,g13,g14,g15],[f0,f1,f2,f3,f4,f5,f6,f7],mk,cd,wy,nn⟩).drop 68).take (Tryz.prog.cellsOf 46)):=(by rw [show Tryz.prog.cellsOf 46 = 24 by kernel_rfl];exact (show KL 7 46 (flCells [f0,f1,f2,f3,f4,f5,f6,f7]) from kl_fds _ rfl hp.fd));have k6 : KL 7 4 (((prCells ⟨pid,par,st,[r0,r1,r2,r3,r4,r5,r6,r7,r8,r9,r10,r11,r12,r13,r14,r15],pc,[g0,g1,g2,g3,g4,g5,g6,g7,g8,g9,g10,g11,g12,g13,g14,g15],[f0,f1,f2,f3,f4,f5,f6,f7],mk,cd,wy,nn⟩).drop 92).take (Tryz.prog.cellsOf 4)):=(by rw [show Tryz.prog.cellsOf 4 = 1 by kernel_rfl];exact (show KL 7 4 ([.bool mk]) from kl_bool Tryz.underlying4));have k7 : KL 7 36 (((prCells ⟨pid,par,st,[r0,r1,r2,r3,r4,r5,r6,r7,r8,r9,r10,r11,r12,r13,r14,r15],pc,[g0,g1,g2,g3,g4,g5,g6,g7,g8,g9,g10,g11,g12,g13,g14,g15],[f0,f1,f2,f3,f4,f5,f6,f7],mk,cd,wy,nn⟩).drop 93).take (Tryz.prog.cellsOf 36)):=(by rw [show Tryz.prog.cellsOf 36 = 1 by kernel_rfl];exact (show KL 7 36 ([.int .u32 cd]) from kl_int Tryz.underlying36 (wf_u32 hp.code)));have k8 : KL 7 3 (((prCells ⟨pid,par,st,[r0,r1,r2,r3,r4,r5,r6,r7,r8,r9,r10,r11,r12,r13,r14,r15],pc,[g0,g1,g2,g3,g4,g5,g6,g7,g8,g9,g10,g11,g12,g13,g14,g15],[f0,f1,f2,f3,f4,f5,f6,f7],mk,cd,wy,nn⟩).drop 94).take (Tryz.prog.cellsOf 3)):=(by rw [show Tryz.prog.cellsOf 3 = 1 by kernel_rfl];exact (show KL 7 3 ([.int .i64 wy]) from kl_int Tryz.underlying3 (wf_j8 hp.why)));have k9 : KL 7 22 (((prCells ⟨pid,par,st,[r0,r1,r2,r3,r4,r5,r6,r7,r8,r9,r10,r11,r12,r13,r14,r15],pc,[g0,g1,g2,g3,g4,g5,g6,g7,g8,g9,g10,g11,g12,g13,g14,g15],[f0,f1,f2,f3,f4,f5,f6,f7],mk,cd,wy,nn⟩).drop 95).take (Tryz.prog.cellsOf 22)):=(by rw [show Tryz.prog.cellsOf 22 = 1 by kernel_rfl];exact (show KL 7 22 ([.int .u64 nn]) from kl_int Tryz.underlying22 (wf_u64 hp.n)));exact ⟨kl_struct Tryz.underlying48 (by kernel_rfl) (by kernel_rfl) ⟨k0,k1,k2,k3,k4,k5,k6,k7,k8,k9,trivial⟩ (by kernel_rfl),by kernel_rfl⟩
theorem prCells_key (p : Pr) : ∀ v ∈ prCells p,isKey v = true:=by
 intro v hv;simp only [prCells,rgCells,pgCells,flCells,List.mem_cons,List.mem_append,List.mem_map,List.mem_flatMap,List.not_mem_nil,or_false,pgCells1,flCells1] at hv;rcases hv with rfl | rfl | rfl | ⟨_,_,rfl⟩ | rfl | ⟨_,_,rfl | rfl | rfl⟩ | ⟨_,_,rfl | rfl | rfl⟩ | rfl | rfl | rfl | rfl <;> rfl
theorem flat_inj {α : Type} {f : α → List Value} {k : Nat} (hk : ∀ x,(f x).length = k) (hi : ∀ x y,f x = f y → x = y) : ∀ {a b : List α},a.length = b.length → a.flatMap f = b.flatMap f → a = b
 | [],[],_,_ => rfl
 | [],_ :: _,h,_ => by simp at h
 | _ :: _,[],h,_ => by simp at h
 | x :: a,y :: b,hl,h => by
  rw [List.flatMap_cons,List.flatMap_cons] at h;obtain ⟨h1,h2⟩:=List.append_inj h (by rw [hk,hk]);rw [hi x y h1,flat_inj hk hi (by simpa using hl) h2]
theorem prCells_inj {p q : Pr} (hp : PrOk p) (hq : PrOk q) (h : prCells p = prCells q) : p = q:=by
 obtain ⟨a1,a2,a3,a4,a5,a6,a7,a8,a9,a10,a11⟩:=p;obtain ⟨b1,b2,b3,b4,b5,b6,b7,b8,b9,b10,b11⟩:=q;simp only [prCells,List.cons.injEq,Value.int.injEq,true_and] at h;obtain ⟨rfl,rfl,rfl,g1⟩:=h;have s5:=hp.regs;have s6:=hq.regs;simp only at s5 s6;obtain ⟨h1,g2⟩:=List.append_inj g1 (by simp only [rgCells,List.length_map,s5,s6]);simp only [List.cons.injEq,Value.int.injEq,true_and] at g2;obtain ⟨rfl,g3⟩:=g2;have s1:=hp.space;have s2:=hq.space;have s3:=hp.fds;have s4:=hq.fds;simp only at s1 s2 s3 s4;obtain ⟨h2,g4⟩:=List.append_inj g3 (by rw [pgCells_length,pgCells_length,s1,s2]);obtain ⟨h3,g5⟩:=List.append_inj g4 (by rw [flCells_length,flCells_length,s3,s4]);simp only [List.cons.injEq,Value.int.injEq,Value.bool.injEq,true_and,and_true] at g5;obtain ⟨rfl,rfl,rfl,rfl⟩:=g5;have e1 : a4 = b4:=(by unfold rgCells at h1;exact List.map_inj_right (fun x y e => by injection e) |>.1 h1);have e2 : a6 = b6:=flat_inj (k:=3) (fun _ => rfl) (fun x y e => by obtain ⟨_,_,_⟩:=x;obtain ⟨_,_,_⟩:=y;simp only [pgCells1,List.cons.injEq,Value.bool.injEq,Value.int.injEq,true_and,and_true] at e;obtain ⟨rfl,rfl,rfl⟩:=e;rfl) (by rw [s1,s2]) h2;have e3 : a7 = b7:=flat_inj (k:=3) (fun _ => rfl) (fun x y e => by obtain ⟨_,_,_⟩:=x;obtain ⟨_,_,_⟩:=y;simp only [flCells1,List.cons.injEq,Value.int.injEq,true_and,and_true] at e;obtain ⟨rfl,rfl,rfl⟩:=e;rfl) (by rw [s3,s4]) h3;subst e1 e2 e3;rfl
theorem pr_eqv (w : World) {p q : Pr} (hp : PrOk p) (hq : PrOk q) : (Op.equal 48 (.agg (prCells p).toArray) (.agg (prCells q).toArray)).run Tryz.prog w = .ok (decide (p = q)) w:=by
 obtain ⟨h1,h2⟩:=pr_kl hp;obtain ⟨h3,h4⟩:=pr_kl hq;obtain ⟨r,hr,hiff⟩:=run_equalIn_deep (P:=Tryz.prog) 9992 8 48 (by kernel_rfl) w 8 8 _ _ _ _ h2 h4 h1 h3;have e : r = decide (p = q):=(by rw [Bool.eq_iff_iff,hiff,decide_eq_true_eq];exact ⟨fun e => prCells_inj hp hq (mapLit_inj (prCells_key p) (prCells_key q) e),fun e => by rw [e]⟩);rw [e] at hr;exact hr
theorem pr_eqlv (w : World) {p q : Pr} (hp : PrOk p) (hq : PrOk q) : (binOp .eql 48 (.agg (prCells p).toArray) (.agg (prCells q).toArray)).run Tryz.prog w = .ok (.bool (decide (p = q))) w:=by
 unfold binOp;simp only [Sem.run_bind,pr_eqv w hp hq,Result.andThen_ok,Sem.run_pure]
end Go.Proofs.YtdkhnjjihbmlmaaGreatDoor
