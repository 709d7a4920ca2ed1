/-
  Walks: the kernel's methods call and try; sys.Do. (Printed by gen_sps.py.)
-/
import Derived.Test.YtdhfblfnejmeiaaGreatDoorSpR
import Derived.Defers
import Derived.Recover
import Derived.Laws.Pointers
namespace Go.Proofs.YtdhfblfnejmeiaaGreatDoor
open Go.RowKit

set_option maxRecDepth 100000 in
set_option maxHeartbeats 1000000 in
theorem call_read (w : World) (kb : Nat) (Q : World → Prop) (hc : Calls Tryz.prog 34 #[.pointer (some ⟨kb, 0, none⟩)] w fun e w' => e = .returned (.tuple #[]) ∧ Q w') :
    Calls Tryz.prog 26 #[.pointer (some ⟨kb, 0, none⟩), .int .u32 1] w fun e w' => e = .returned (.tuple #[]) ∧ Q w' := by
  have HC := Lib.hid hc
  clear hc
  go_enter Tryz.func26, Tryz.ntmps26
  go_wp2_with fail
  refine HC.out.mono ?_
  rintro e w1 ⟨rfl, hq⟩
  have HQ := Lib.hid hq
  clear hq HC
  go_wp2_with fail
  refine bodyPost_end (v := .tuple #[]) (by simp [results, Tryz.results26, go_sem]) rfl ?_
  exact ⟨rfl, HQ.out⟩
set_option maxRecDepth 100000 in
set_option maxHeartbeats 1000000 in
theorem call_write (w : World) (kb : Nat) (Q : World → Prop) (hc : Calls Tryz.prog 35 #[.pointer (some ⟨kb, 0, none⟩)] w fun e w' => e = .returned (.tuple #[]) ∧ Q w') :
    Calls Tryz.prog 26 #[.pointer (some ⟨kb, 0, none⟩), .int .u32 2] w fun e w' => e = .returned (.tuple #[]) ∧ Q w' := by
  have HC := Lib.hid hc
  clear hc
  go_enter Tryz.func26, Tryz.ntmps26
  go_wp2_with fail
  refine HC.out.mono ?_
  rintro e w1 ⟨rfl, hq⟩
  have HQ := Lib.hid hq
  clear hq HC
  go_wp2_with fail
  refine bodyPost_end (v := .tuple #[]) (by simp [results, Tryz.results26, go_sem]) rfl ?_
  exact ⟨rfl, HQ.out⟩
set_option maxRecDepth 100000 in
set_option maxHeartbeats 1000000 in
theorem call_close (w : World) (kb : Nat) (Q : World → Prop) (hc : Calls Tryz.prog 37 #[.pointer (some ⟨kb, 0, none⟩)] w fun e w' => e = .returned (.tuple #[]) ∧ Q w') :
    Calls Tryz.prog 26 #[.pointer (some ⟨kb, 0, none⟩), .int .u32 4] w fun e w' => e = .returned (.tuple #[]) ∧ Q w' := by
  have HC := Lib.hid hc
  clear hc
  go_enter Tryz.func26, Tryz.ntmps26
  go_wp2_with fail
  refine HC.out.mono ?_
  rintro e w1 ⟨rfl, hq⟩
  have HQ := Lib.hid hq
  clear hq HC
  go_wp2_with fail
  refine bodyPost_end (v := .tuple #[]) (by simp [results, Tryz.results26, go_sem]) rfl ?_
  exact ⟨rfl, HQ.out⟩
set_option maxRecDepth 100000 in
set_option maxHeartbeats 1000000 in
theorem call_pipe (w : World) (kb : Nat) (Q : World → Prop) (hc : Calls Tryz.prog 38 #[.pointer (some ⟨kb, 0, none⟩)] w fun e w' => e = .returned (.tuple #[]) ∧ Q w') :
    Calls Tryz.prog 26 #[.pointer (some ⟨kb, 0, none⟩), .int .u32 5] w fun e w' => e = .returned (.tuple #[]) ∧ Q w' := by
  have HC := Lib.hid hc
  clear hc
  go_enter Tryz.func26, Tryz.ntmps26
  go_wp2_with fail
  refine HC.out.mono ?_
  rintro e w1 ⟨rfl, hq⟩
  have HQ := Lib.hid hq
  clear hq HC
  go_wp2_with fail
  refine bodyPost_end (v := .tuple #[]) (by simp [results, Tryz.results26, go_sem]) rfl ?_
  exact ⟨rfl, HQ.out⟩
set_option maxRecDepth 100000 in
set_option maxHeartbeats 2000000 in
theorem try_idle (w : World) (p : Value) :
    CallsD Tryz.prog 24 #[p] .returning w fun e u' w' => e = .returned (.tuple #[]) ∧ u' = .returning ∧ w' = w := by
  refine callsD_of_wpS Tryz.func24 rfl fun c₀ cs hu => ?_
  apply wpS_seq
  apply wpS_region
  simp [wpOpsS, go_sem, recoverD, hu, Tryz.ntmps24, Exit.thenS]
  refine wpS_of_wp ?_
  have e : #[p] ++ ((Array.replicate 33 undef).setIfInBounds 3 Value.nilIface).setIfInBounds 0 Value.nilIface = #[p, .nilIface, undef, undef, .nilIface, undef, undef, undef, undef, undef, undef, undef, undef, undef, undef, undef, undef, undef, undef, undef, undef, undef, undef, undef, undef, undef, undef, undef, undef, undef, undef, undef, undef, undef] := by kernel_rfl
  rw [e]
  go_wp2_with fail
  exact ⟨rfl, .returning, by cases c₀; simp_all, .tuple #[], by simp [results, Tryz.results24, go_sem], rfl, rfl, rfl⟩
set_option maxRecDepth 100000 in
set_option maxHeartbeats 2000000 in
theorem try_door {R : Ending → World → Prop} {W : World} {tmps : Array Value} {p : Value} (hR : R (.returned (.tuple #[])) W) :
    bodyPostD Tryz.prog Tryz.f12 R Exit.normal { tmps := tmps, defers := [{ target := Target.fn (Fn.func 24) #[p], args := #[] }] } W := by
  show Leaves _ _ _ _ _ _ _
  refine leaves_cons (f := 24) (args := #[p]) (by simp) (by simp [go_sem]) ?_
  refine (try_idle W p).mono ?_
  rintro e u' w'' ⟨rfl, rfl, rfl⟩
  dsimp only
  have hst : settle .returning = .returning := rfl
  rw [hst]
  exact ⟨_, by simp [results, Tryz.results12, go_sem], hR⟩
set_option maxRecDepth 100000 in
set_option maxHeartbeats 1000000 in
theorem try_any (w : World) (kb : Nat) (n : Int) (Q : World → Prop) (hc : ∀ W, Below w.heap.size w W → Calls Tryz.prog 26 #[.pointer (some ⟨kb, 0, none⟩), .int .u32 n] W fun e w' => e = .returned (.tuple #[]) ∧ Q w') :
    Calls Tryz.prog 12 #[.pointer (some ⟨kb, 0, none⟩), .int .u32 n] w fun e w' => e = .returned (.tuple #[]) ∧ Q w' := by
  have hmf : ∀ (fn : Fn) (first cap : Array Value) (w : World), (Instr.makeFunc fn first cap).run Tryz.prog w = .ok (.func fn first cap) w := fun _ _ _ _ => rfl
  have HC := Lib.hid (hc _ ((Below.refl w.heap.size w).alloc (Nat.le_refl _) (.cells #[.pointer (some ⟨kb, 0, none⟩)] 58)))
  have c0 : (w.alloc (.cells #[.pointer (some ⟨kb, 0, none⟩)] 58)).cell? ⟨w.heap.size, 0, none⟩ = some (.pointer (some ⟨kb, 0, none⟩)) := (Whole.made w 58 #[.pointer (some ⟨kb, 0, none⟩)]).cell 0
  clear hc
  go_enter_defers Tryz.func12, Tryz.ntmps12
  go_wp2_with fail
  refine HC.out.mono ?_
  rintro e w1 ⟨rfl, hq⟩
  have HQ := Lib.hid hq
  clear hq HC c0 hmf
  go_wp2_with fail
  refine try_door ⟨rfl, HQ.out⟩
section
variable {P : Program}
theorem wp_build {o : Oper} {a : Act} {w : World} {K : Act → World → Prop} {Q : Exit → Act → World → Prop} (ty : TypeId) (parts : Array (Nat × Operand)) (ho : o.op = .build ty parts)
    (vals : Array (Nat × Value)) (hp : (parts.map fun (i, x) => (i, a.eval x)) = vals) (v : Value) (hr : (Instr.build ty vals).run P w = .ok v w) (h : K (a.put o.dst v) w) : o.wp P a w K Q := by
  unfold Oper.wp execOp
  simp only [ho, hp, Sem.run_bind, hr, Result.andThen_ok, Sem.run_pure]
  exact h
theorem wpList_build {ops : Array Oper} {rest : List Oper} {o : Oper} {a : Act} {w : World} {Q : Exit → Act → World → Prop} (hgd : o.guard = none) (ty : TypeId) (parts : Array (Nat × Operand)) (ho : o.op = .build ty parts)
    (vals : Array (Nat × Value)) (hp : (parts.map fun (i, x) => (i, a.eval x)) = vals) (v : Value) (hr : (Instr.build ty vals).run P w = .ok v w) (h : wpList P ops Q rest (a.put o.dst v) w) : wpList P ops Q (o :: rest) a w :=
  wpList_plain hgd fun _ hK => wp_build ty parts ho vals hp v hr (hK _ _ h)
theorem run_box_agg (ty : TypeId) (cs : Array Value) (w : World) : (Instr.box ty (.agg cs)).run P w = .ok (.pointer (some ⟨w.heap.size, 0, none⟩)) (w.alloc (.cells cs ty)) := by
  simp [Instr.box, newVar, newRow, Value.cells]
theorem wpList_box {ops : Array Oper} {rest : List Oper} {o : Oper} {a : Act} {w : World} {Q : Exit → Act → World → Prop} (hgd : o.guard = none) (ty : TypeId) (x : Operand) (ho : o.op = .box ty x) (cs : Array Value) (hx : a.eval x = .agg cs)
    (h : wpList P ops Q rest (a.put o.dst (.pointer (some ⟨w.heap.size, 0, none⟩))) (w.alloc (.cells cs ty))) : wpList P ops Q (o :: rest) a w :=
  wpList_plain hgd fun _ hK => by
    unfold Oper.wp execOp
    simp only [ho, hx, Sem.run_bind, run_box_agg, Result.andThen_ok, Sem.run_pure]
    exact hK _ _ h
end
/-- what own.Machine gives, within a region -/
def OwnR (base : Nat) (m : Mc) (p : Pr) (_ : Nat) (v : Value) (W : World) : Prop := ∃ a pb z, v = .agg (mcL a m).toArray ∧ OM W (fun g => base ≤ g) a m p pb z
theorem OwnR.stays {base : Nat} {m : Mc} {p : Pr} : ∀ j v W W', OwnR base m p j v W → Below W.heap.size W W' → OwnR base m p j v W' := by
  rintro j v W W' ⟨a, pb, z, e, h⟩ hb
  exact ⟨a, pb, z, e, h.below hb⟩
theorem rg_one (l : List Int) : ∀ v ∈ rgCells l, v.oneCell' = true := by
  intro v hv
  obtain ⟨x, _, rfl⟩ := List.mem_map.1 hv
  rfl
theorem Tryz.infoRg : (Tryz.prog.info? 36).map (fun i => (i.zero, i.size)) = some (some (.agg (rgCells [0, 0, 0, 0, 0, 0, 0, 0, 0, 0, 0, 0, 0, 0, 0, 0]).toArray), 16) := by kernel_rfl
theorem KS.far {w w' : World} {B kb q : Nat} {a : MA} {m : Mc} {p : Pr} {pb : Nat} {z : List Value} {a0 : MA} {m0 : Mc} {x0 x1 x2 : Int} {tl : List UInt8} (h : KS w B kb a m p pb z a0 m0 x0 x1 x2 tl) (hk : w.grownBy w' (some q)) (hq : q < B) : KS w' B kb a m p pb z a0 m0 x0 x1 x2 tl :=
  ⟨h.om.other hk (by intro e; have := e.1; omega), h.ker.other hk (by intro e; injection e with e; have := h.hB; omega), h.hB, h.good⟩
/-- a machine's lists lie below a block -/
def MU (N : Nat) (a : MA) : Prop := (∀ ad, a.F = some ad → ad.block < N) ∧ (∀ ad, a.P = some ad → ad.block < N) ∧ (∀ ad, a.Q = some ad → ad.block < N) ∧ (∀ ad, a.L = some ad → ad.block < N) ∧ (∀ ad, a.N = some ad → ad.block < N) ∧ (∀ ad, a.D = some ad → ad.block < N)
theorem OM.mu {w : World} {ok : Nat → Prop} {a : MA} {m : Mc} {p : Pr} {pb : Nat} {z : List Value} (h : OM w ok a m p pb z) : MU w.heap.size a :=
  ⟨fun ad e => (h.F.2 ad e).2.2.lt, fun ad e => by rw [h.aP] at e; injection e with e; subst e; exact h.pr.lt, fun ad e => (h.Q.2 ad e).2.2.lt, fun ad e => (h.L.2 ad e).2.2.lt, fun ad e => (h.N.2 ad e).2.2.lt, fun ad e => (h.D.2 ad e).2.2.lt⟩
theorem build_kernel (a : MA) (m : Mc) (a0 : MA) (m0 : Mc) (x0 x1 x2 : Int) (w : World) : (Instr.build 60 #[(0, .agg (mcL a m).toArray), (1, .agg (mcL a0 m0).toArray), (2, .int .i64 1), (3, .agg #[.int .u32 x0, .int .u32 x1, .int .u32 x2])]).run Tryz.prog w = .ok (.agg (kcL a m a0 m0 x0 x1 x2 []).toArray) w := by kernel_rfl
theorem Tryz.sizeRg : (Tryz.prog.info? 36).map (·.size) = some 16 := by kernel_rfl
set_option maxRecDepth 100000 in
set_option maxHeartbeats 4000000 in
theorem do_any (w : World) (a : MA) (m : Mc) (p : Pr) (hG : Good m p) (hA : MAt w w.heap.size a m) (hpl : m.pipes.length ≤ 1099511627776) (hst : p.state = 1) (x0 x1 x2 : Int) (h1 : p.regs[1]? = some x0) (h2 : p.regs[2]? = some x1) (h3 : p.regs[3]? = some x2) (n : Int) (m' : Mc) (p' : Pr) (tl : List UInt8) (hcall : ∀ W B kb a2 pb z, w.heap.size ≤ B → KS W B kb a2 m p pb z a m x0 x1 x2 [] → Calls Tryz.prog 26 #[.pointer (some ⟨kb, 0, none⟩), .int .u32 n] W fun e w' => e = .returned (.tuple #[]) ∧ KE w' B kb m' p' x0 x1 x2 tl ∧ Below B W w') :
    Calls Tryz.prog 5 #[.agg (mcL a m).toArray, .int .u32 n] w fun e w' => (∃ a', e = .returned (.tuple #[.agg (mcL a' m').toArray, S tl]) ∧ MAt w' w'.heap.size a' m' ∧ MB w.heap.size a' ∧ (∃ pb, a'.P = some ⟨pb, 0, none⟩) ∧ MU w'.heap.size a') ∧ Good m' p' ∧ Below w.heap.size w w' := by
  have hA' : Lies w w.heap.size a.P (prCells p) := by have := hA.P; rw [hG.one] at this; simpa [prsCells] using this
  have hml : m.procs.length = 1 := by rw [hG.one]; rfl
  have hs0 := (Whole.made w 31 (mcL a m).toArray).block (.cells #[.int .u64 0, .int .i64 0, .int .i64 0, .int .i64 0, .slice none 0 0, .slice none 0 0, .int .i64 0, S [], .slice none 0 0, .int .i64 0, S [], .bool false, .int .u64 0, .slice none 0 0, .slice none 0 0, .int .i64 0, .slice none 0 0] 31)
  have hs1 := Whole.made (w.alloc (.cells (mcL a m).toArray 31)) 31 #[.int .u64 0, .int .i64 0, .int .i64 0, .int .i64 0, .slice none 0 0, .slice none 0 0, .int .i64 0, S [], .slice none 0 0, .int .i64 0, S [], .bool false, .int .u64 0, .slice none 0 0, .slice none 0 0, .int .i64 0, .slice none 0 0]
  rw [show (w.alloc (.cells (mcL a m).toArray 31)).heap.size = w.heap.size + 1 by simp] at hs1
  have hb : Below w.heap.size w ((w.alloc (.cells (mcL a m).toArray 31)).alloc (.cells #[.int .u64 0, .int .i64 0, .int .i64 0, .int .i64 0, .slice none 0 0, .slice none 0 0, .int .i64 0, S [], .slice none 0 0, .int .i64 0, S [], .bool false, .int .u64 0, .slice none 0 0, .slice none 0 0, .int .i64 0, .slice none 0 0] 31)) := ((Below.refl _ _).alloc (by first | exact Nat.le_refl _ | simp | (simp; omega)) _).alloc (by first | exact Nat.le_refl _ | simp | (simp; omega)) _
  go_enter Tryz.func5, Tryz.ntmps5
  go_upto_region 1 with (fail)
  change Code.wp _ _ _ _ ((w.alloc (.cells (mcL a m).toArray 31)).alloc (.cells #[.int .u64 0, .int .i64 0, .int .i64 0, .int .i64 0, .slice none 0 0, .slice none 0 0, .int .i64 0, S [], .slice none 0 0, .int .i64 0, S [], .bool false, .int .u64 0, .slice none 0 0, .slice none 0 0, .int .i64 0, .slice none 0 0] 31))
  generalize ((w.alloc (.cells (mcL a m).toArray 31)).alloc (.cells #[.int .u64 0, .int .i64 0, .int .i64 0, .int .i64 0, .slice none 0 0, .slice none 0 0, .int .i64 0, S [], .slice none 0 0, .int .i64 0, S [], .bool false, .int .u64 0, .slice none 0 0, .slice none 0 0, .int .i64 0, .slice none 0 0] 31)) = w1 at *
  generalize hgx : w.heap.size = gx at *
  have HGX := Lib.hid hgx
  have HS0 := Lib.hid hs0
  have HS1 := Lib.hid hs1
  have HW := Lib.hid hb
  have hgl : gx + 1 < w1.heap.size := hs1.lt
  clear hgx hb hs0 hs1
  have HZ1 : Hid (Whole w1 (gx + 1) 31 zeroML.toArray) := Lib.hid HS1.out
  have LM := Lib.hid HS0.out.reads
  have MI : Hid ((Tryz.prog.info? 31).map (·.size) = some (mcL a m).length) := Lib.hid Tryz.sizeMc
  have HA := Lib.hid ((hA.below HW.out).wide (B' := w1.heap.size) (by omega))
  have HP := Lib.hid ((Lies.below hA' HW.out).wide (B' := w1.heap.size) (by omega))
  have CF := Lib.hid (find_any w1 a m p hG HA.out)
  have HM := Lib.hid hG
  have hcp : m.cur = p.pid := by rw [hG.cur, hG.pid]
  have c2 : w1.cell? ⟨gx, 2, none⟩ = some (.int .i64 p.pid) := (HS0.out.cell 2).trans (by rw [← hcp]; rfl)
  have HST := Lib.hid hst
  have HMC := Lib.hid HS0.out
  have HML := Lib.hid hml
  have HR1 := Lib.hid h1
  have HR2 := Lib.hid h2
  have HR3 := Lib.hid h3
  have HC := Lib.hid hcall
  have HPL := Lib.hid hpl
  clear HS0 HS1 hA hA' hG hst h1 h2 h3 hcall hpl hml hcp
  go_wp2_with (refine wpList_load_at rfl 31 (.tmp 2) rfl ⟨gx, 0, none⟩ rfl (mcL a m) _ LM.out Tryz.underlying31 rfl MI.out ?_)
  refine CF.out.mono ?_
  rintro e w2 ⟨rfl, hb⟩
  have HZ2 := Lib.hid (HZ1.out.below hb HZ1.out.lt)
  have HMC2 := Lib.hid (HMC.out.below hb HMC.out.lt)
  have HA2 := Lib.hid ((HA.out.below hb).wide hb.size)
  have HV2 := Lib.hid (HW.out.trans (hb.mono (by omega)))
  obtain ⟨ad, hadr, had, hc⟩ := Lies.row (f := prCells) (n := 96) (l := [p]) (by simpa using Lies.below HP.out hb) (fun y hy => by rw [List.mem_singleton.1 hy]; exact prCells_length HM.out.ok) (by omega) (k := 0) rfl
  have LD : Hid (∀ j v, (prCells p)[j]? = some v → w2.cell? (ad.add j) = some v) := Lib.hid fun j v h => by
    have := hc j v h
    rwa [show ad.add (0 * 96) = ad by unfold Addr.add; simp] at this
  have c5 : w2.cell? ⟨gx, 5, none⟩ = some (.slice (some ad) 1 a.cP) := (HMC2.out.cell 5).trans (by rw [← hadr, ← HML.out]; rfl)
  have k2 : w2.cell? ⟨ad.block, ad.off + 2, none⟩ = some (.int .i64 1) := by
    have := LD.out 2 (.int .i64 p.state) rfl
    rwa [show ad.add 2 = ⟨ad.block, ad.off + 2, none⟩ by unfold Addr.add; simp, HST.out] at this
  have hgl2 : gx + 1 < w2.heap.size := HZ2.out.lt
  clear hb CF HA HP HMC HZ1 HW c2 had hc LM
  go_upto_region 4 with (fail)
  have LRG : Hid (∀ j v, (rgCells p.regs)[j]? = some v → w2.cell? ((⟨ad.block, ad.off + 3, none⟩ : Addr).add j) = some v) := Lib.hid fun j v hv => by
    have hj : j < 16 := by
      have := (List.getElem?_eq_some_iff.1 hv).1
      rw [rgCells, List.length_map, HM.out.ok.regs] at this; exact this
    have := LD.out (3 + j) v (by rw [pr_reg HM.out.ok hj]; exact hv)
    rwa [show ad.add (3 + j) = (⟨ad.block, ad.off + 3, none⟩ : Addr).add j by unfold Addr.add; by_cases h : j = 0 <;> simp [h]; omega] at this
  have hrl : (rgCells p.regs).length = 16 := by rw [rgCells, List.length_map, HM.out.ok.regs]
  have SRG : Hid ((Tryz.prog.info? 36).map (·.size) = some (rgCells p.regs).length) := Lib.hid (by rw [hrl]; exact Tryz.sizeRg)
  have IRG : Hid ((Tryz.prog.info? 36).map (fun i => (i.zero, i.size)) = some (some (.agg (rgCells [0, 0, 0, 0, 0, 0, 0, 0, 0, 0, 0, 0, 0, 0, 0, 0]).toArray), (rgCells p.regs).length)) := Lib.hid (by rw [hrl]; exact Tryz.infoRg)
  have ZRG : Hid ((Value.agg (rgCells [0, 0, 0, 0, 0, 0, 0, 0, 0, 0, 0, 0, 0, 0, 0, 0]).toArray).cells.size = (rgCells p.regs).length) := Lib.hid (by rw [hrl]; rfl)
  have HG8 := Lib.hid (Whole.made w2 36 (rgCells p.regs).toArray)
  have HB8 : Hid (Below w2.heap.size w2 (w2.alloc (.cells (rgCells p.regs).toArray 36))) := Lib.hid ((Below.refl w2.heap.size w2).alloc (Nat.le_refl _) _)
  clear k2
  go_upto_region 5 with (first
    | (refine wpList_load_at rfl 36 (.tmp 35) rfl ⟨ad.block, ad.off + 3, none⟩ (by simp [go_sem]) (rgCells p.regs) _ LRG.out Tryz.underlying36 rfl SRG.out ?_)
    | (refine wpList_fresh rfl rfl 36 8 (.tmp 36) rfl rfl rfl rfl (rgCells p.regs) rfl rfl _ IRG.out ZRG.out (rg_one _) ?_))
  change Code.wp _ _ _ _ (w2.alloc (.cells (rgCells p.regs).toArray 36))
  have HZ3 := Lib.hid (HZ2.out.below HB8.out HZ2.out.lt)
  have HMC3 := Lib.hid (HMC2.out.below HB8.out HMC2.out.lt)
  have HA3 := Lib.hid ((HA2.out.below HB8.out).wide HB8.out.size)
  have HV3 := Lib.hid (HV2.out.trans (HB8.out.mono (by omega)))
  clear LRG SRG IRG ZRG HB8 HZ2 HMC2 HA2 HV2 LD c5 hrl hadr
  generalize w2.alloc (.cells (rgCells p.regs).toArray 36) = w3 at *
  generalize w2.heap.size = g8 at *
  have HCU := Lib.hid (HM.out.cur)
  have HLM : Hid (∀ W, Below w3.heap.size w3 W → ∀ j v, (mcL a m)[j]? = some v → W.cell? ((⟨gx, 0, none⟩ : Addr).add j) = some v) := Lib.hid fun W hS => (HMC3.out.below hS HMC3.out.lt).reads
  have CC2 : Hid (∀ W, Below w3.heap.size w3 W → W.cell? ⟨gx, 2, none⟩ = some (.int .i64 1)) := Lib.hid fun W hS => ((HMC3.out.below hS HMC3.out.lt).cell 2).trans (by rw [← HCU.out]; rfl)
  have CRG : Hid (∀ W, Below w3.heap.size w3 W → ∀ j x, p.regs[j]? = some x → W.cell? ⟨g8, j, none⟩ = some (.int .u32 x)) := Lib.hid fun W hS j x hx => ((HG8.out.below hS HG8.out.lt).cell j).trans (by rw [List.getElem?_toArray, rgCells, List.getElem?_map, hx]; rfl)
  have CO : Hid (∀ W, Below w3.heap.size w3 W → Calls Tryz.prog 11 #[.agg (mcL a m).toArray] W fun e w' => (∃ v, e = .returned v ∧ OwnR w3.heap.size m p 1 v w') ∧ Below W.heap.size W w') := Lib.hid fun W hS => (ownm_any W a m p HM.out HPL.out ((HA3.out.below hS).wide hS.size)).mono (by
    rintro e w' ⟨⟨a2, pb, z, rfl, ho⟩, hb⟩
    exact ⟨⟨_, rfl, a2, pb, z, rfl, ho.mono (fun g hg => Nat.le_trans hS.size hg)⟩, hb⟩)
  refine' wp_region_sureX (by kernel_rfl) (PostX w3 [(1, 38)] (OwnR w3.heap.size m p)) 12 [some _, none, some _, some _, some _, some _, some _, some _, some _, some _, some _, some _] [some 37, some 38, some 39, some 40, some 41, some 42, some 43, some 44, some 45, some 46, some 47, some 48] (by kernel_rfl) (by kernel_rfl) (by kernel_rfl) (by kernel_rfl) rfl (PostX.init (Below.refl _ _).drew) ?hs1
  case hs1 =>
    refine sureX_cons ?_ ?_
    · intro L ac W K hLi hed hJ hX hK
      have hS := hX.1
      have hA2 : ac.eval (.tmp 2) = .pointer (some ⟨gx, 0, none⟩) := hJ.eval_old 2 (by kernel_rfl)
      have hsz := Lib.hid hJ.size
      clear hLi hed hJ
      refine opStep_of rfl ?_
      refine oper_load_at 31 (.tmp 2) rfl ⟨gx, 0, none⟩ hA2 (mcL a m) _ (HLM.out W hS) Tryz.underlying31 rfl MI.out ?_
      refine hK _ _ ?_ (hX.step OwnR.stays (Below.refl _ _) rfl rfl)
      exact Knows.known _
    refine sureX_cons ?_ ?_
    · intro L ac W K hLi hed hJ hX hK
      have hS := hX.1
      have hn := needs_spec (l := [0]) (by kernel_rfl) hed
      have hA37 := hJ.eval 0 (d := 37) (hn 0 (by simp)) rfl rfl rfl
      have hsz := Lib.hid hJ.size
      clear hLi hed hJ hn
      refine opStep_of rfl ?_
      unfold Oper.wp execOp
      have hN37 := evalN hA37
      go_simp
      refine (CO.out W hS).mono ?_
      rintro e W' ⟨⟨v, rfl, hv⟩, hb⟩
      have hX2 := hX.made (j := 1) (s := 38) OwnR.stays hb rfl (by rw [hsz.out]; exact of_decide_eq_true rfl) hv
      dsimp only
      refine hK _ W' ?_ hX2
      exact Knows.free _
    refine sureX_cons ?_ ?_
    · intro L ac W K hLi hed hJ hX hK
      have hS := hX.1
      have hA2 : ac.eval (.tmp 2) = .pointer (some ⟨gx, 0, none⟩) := hJ.eval_old 2 (by kernel_rfl)
      have hsz := Lib.hid hJ.size
      clear hLi hed hJ
      refine opStep_of rfl ?_
      refine oper_load_at 31 (.tmp 2) rfl ⟨gx, 0, none⟩ hA2 (mcL a m) _ (HLM.out W hS) Tryz.underlying31 rfl MI.out ?_
      refine hK _ _ ?_ (hX.step OwnR.stays (Below.refl _ _) rfl rfl)
      exact Knows.known _
    refine sureX_cons ?_ ?_
    · intro L ac W K hLi hed hJ hX hK
      have hS := hX.1
      have hA2 : ac.eval (.tmp 2) = .pointer (some ⟨gx, 0, none⟩) := hJ.eval_old 2 (by kernel_rfl)
      have hsz := Lib.hid hJ.size
      clear hLi hed hJ
      refine opStep_of rfl ?_
      unfold Oper.wp execOp
      have hN2 := evalN hA2
      go_simp
      refine hK _ _ ?_ (hX.step OwnR.stays (Below.refl _ _) rfl rfl)
      exact Knows.known _
    refine sureX_cons ?_ ?_
    · intro L ac W K hLi hed hJ hX hK
      have hS := hX.1
      have hn := needs_spec (l := [3]) (by kernel_rfl) hed
      have hA40 := hJ.eval 3 (d := 40) (hn 3 (by simp)) rfl rfl rfl
      have hsz := Lib.hid hJ.size
      clear hLi hed hJ hn
      refine opStep_of rfl ?_
      have cc := CC2.out W hS
      unfold Oper.wp execOp
      have hN40 := evalN hA40
      go_simp
      refine hK _ _ ?_ (hX.step OwnR.stays (Below.refl _ _) rfl rfl)
      exact Knows.known _
    refine sureX_cons ?_ ?_
    · intro L ac W K hLi hed hJ hX hK
      have hS := hX.1
      have hA8 : ac.eval (.tmp 8) = .pointer (some ⟨g8, 0, none⟩) := hJ.eval_old 8 (by kernel_rfl)
      have hsz := Lib.hid hJ.size
      clear hLi hed hJ
      refine opStep_of rfl ?_
      unfold Oper.wp execOp
      have hN8 := evalN hA8
      go_simp
      refine hK _ _ ?_ (hX.step OwnR.stays (Below.refl _ _) rfl rfl)
      exact Knows.known _
    refine sureX_cons ?_ ?_
    · intro L ac W K hLi hed hJ hX hK
      have hS := hX.1
      have hn := needs_spec (l := [5]) (by kernel_rfl) hed
      have hA42 := hJ.eval 5 (d := 42) (hn 5 (by simp)) rfl rfl rfl
      have hsz := Lib.hid hJ.size
      clear hLi hed hJ hn
      refine opStep_of rfl ?_
      have cc := CRG.out W hS 1 x0 HR1.out
      unfold Oper.wp execOp
      have hN42 := evalN hA42
      go_simp
      refine hK _ _ ?_ (hX.step OwnR.stays (Below.refl _ _) rfl rfl)
      exact Knows.known _
    refine sureX_cons ?_ ?_
    · intro L ac W K hLi hed hJ hX hK
      have hS := hX.1
      have hA8 : ac.eval (.tmp 8) = .pointer (some ⟨g8, 0, none⟩) := hJ.eval_old 8 (by kernel_rfl)
      have hsz := Lib.hid hJ.size
      clear hLi hed hJ
      refine opStep_of rfl ?_
      unfold Oper.wp execOp
      have hN8 := evalN hA8
      go_simp
      refine hK _ _ ?_ (hX.step OwnR.stays (Below.refl _ _) rfl rfl)
      exact Knows.known _
    refine sureX_cons ?_ ?_
    · intro L ac W K hLi hed hJ hX hK
      have hS := hX.1
      have hn := needs_spec (l := [7]) (by kernel_rfl) hed
      have hA44 := hJ.eval 7 (d := 44) (hn 7 (by simp)) rfl rfl rfl
      have hsz := Lib.hid hJ.size
      clear hLi hed hJ hn
      refine opStep_of rfl ?_
      have cc := CRG.out W hS 2 x1 HR2.out
      unfold Oper.wp execOp
      have hN44 := evalN hA44
      go_simp
      refine hK _ _ ?_ (hX.step OwnR.stays (Below.refl _ _) rfl rfl)
      exact Knows.known _
    refine sureX_cons ?_ ?_
    · intro L ac W K hLi hed hJ hX hK
      have hS := hX.1
      have hA8 : ac.eval (.tmp 8) = .pointer (some ⟨g8, 0, none⟩) := hJ.eval_old 8 (by kernel_rfl)
      have hsz := Lib.hid hJ.size
      clear hLi hed hJ
      refine opStep_of rfl ?_
      unfold Oper.wp execOp
      have hN8 := evalN hA8
      go_simp
      refine hK _ _ ?_ (hX.step OwnR.stays (Below.refl _ _) rfl rfl)
      exact Knows.known _
    refine sureX_cons ?_ ?_
    · intro L ac W K hLi hed hJ hX hK
      have hS := hX.1
      have hn := needs_spec (l := [9]) (by kernel_rfl) hed
      have hA46 := hJ.eval 9 (d := 46) (hn 9 (by simp)) rfl rfl rfl
      have hsz := Lib.hid hJ.size
      clear hLi hed hJ hn
      refine opStep_of rfl ?_
      have cc := CRG.out W hS 3 x2 HR3.out
      unfold Oper.wp execOp
      have hN46 := evalN hA46
      go_simp
      refine hK _ _ ?_ (hX.step OwnR.stays (Below.refl _ _) rfl rfl)
      exact Knows.known _
    refine sureX_cons ?_ ?_
    · intro L ac W K hLi hed hJ hX hK
      have hS := hX.1
      have hn := needs_spec (l := [6, 8, 10]) (by kernel_rfl) hed
      have hA43 := hJ.eval 6 (d := 43) (hn 6 (by simp)) rfl rfl rfl
      have hA45 := hJ.eval 8 (d := 45) (hn 8 (by simp)) rfl rfl rfl
      have hA47 := hJ.eval 10 (d := 47) (hn 10 (by simp)) rfl rfl rfl
      have hsz := Lib.hid hJ.size
      clear hLi hed hJ hn
      refine opStep_of rfl ?_
      unfold Oper.wp execOp
      have hN43 := evalN hA43
      have hN45 := evalN hA45
      have hN47 := evalN hA47
      go_simp
      refine hK _ _ ?_ (hX.step OwnR.stays (Below.refl _ _) rfl rfl)
      exact Knows.known _
    refine sureX_nil ?_
    intro L ac W hL hX ha
    have hS := hX.1
    have hF38 := hX.2 (1, 38) (by simp) (hL 1 (by omega))
    rw [ha]
    simp only [mendAll, Option.getD_some, Option.getD_none, Option.map_some, putAll, Act.put, List.setIfInBounds_toArray, List.set_cons_zero, List.set_cons_succ]
    change ((OwnR w3.heap.size m p)) 1 (ac.tmps.getD 38 undef) W at hF38
    generalize ac.tmps.getD 38 undef = us38 at *
    clear ha hX hL
    obtain ⟨a2, pb, z, e38, ho⟩ := hF38
    subst e38
    have HOW := Lib.hid ho.old
    have HZ4 := Lib.hid (HZ3.out.below hS HZ3.out.lt)
    have HV4 := Lib.hid (HV3.out.trans (hS.mono (by have := HZ3.out.lt; omega)))
    have hs4 : w3.heap.size ≤ W.heap.size := hS.size
    have hs3 : gx + 1 < w3.heap.size := HZ3.out.lt
    clear hS ho HLM CC2 CRG CO HA3 HMC3 HZ3 HV3 HG8
    refine wpList_build rfl 60 #[(0, .tmp 38), (1, .tmp 39), (2, .tmp 41), (3, .tmp 48)] rfl #[(0, .agg (mcL a2 m).toArray), (1, .agg (mcL a m).toArray), (2, .int .i64 1), (3, .agg #[.int .u32 x0, .int .u32 x1, .int .u32 x2])] (by simp only [List.map_toArray, List.map_cons, List.map_nil]; rfl) _ (build_kernel a2 m a m x0 x1 x2 _) ?_
    refine wpList_box rfl 60 (.tmp 49) rfl (kcL a2 m a m x0 x1 x2 []).toArray rfl ?_
    have HKW := Lib.hid (Whole.made W 60 (kcL a2 m a m x0 x1 x2 []).toArray)
    have HBW : Hid (Below W.heap.size W (W.alloc (.cells (kcL a2 m a m x0 x1 x2 []).toArray 60))) := Lib.hid ((Below.refl W.heap.size W).alloc (Nat.le_refl _) _)
    obtain ⟨b3, hb3⟩ : ∃ b, b = w3.heap.size := ⟨_, rfl⟩
    rw [← hb3] at HOW hs4 hs3
    have HKS := Lib.hid (KS.mk (B := b3) ((HOW.out.below HBW.out).mono (ok' := fun g => b3 ≤ g ∧ g ≠ W.heap.size) (fun g hg => ⟨hg.1, by have := hg.2; omega⟩)) HKW.out hs4 HM.out)
    have HZ5 := Lib.hid (HZ4.out.below HBW.out HZ4.out.lt)
    have HV5 := Lib.hid (HV4.out.trans (HBW.out.mono (by omega)))
    clear hb3 HOW HKW HBW HZ4 HV4
    generalize W.alloc (.cells (kcL a2 m a m x0 x1 x2 []).toArray 60) = wk at *
    generalize W.heap.size = kb at *
    have CT := Lib.hid (try_any wk kb n (fun w' => KE w' b3 kb m' p' x0 x1 x2 tl ∧ Below b3 wk w') (fun W' hW => (HC.out W' b3 kb a2 pb z (by omega) (HKS.out.below hW)).mono (by
      rintro e w' ⟨rfl, hk, hb⟩
      exact ⟨rfl, hk, (hW.mono (by have := HKS.out.kl; have := HKS.out.hB; omega)).trans hb⟩)))
    go_wp2_with fail
    refine CT.out.mono ?_
    rintro e w6 ⟨rfl, ⟨a6, pb6, z6, a60, m60, hk⟩, hb⟩
    have HK6 := Lib.hid hk
    have HZ6 := Lib.hid (HZ5.out.below hb (by omega))
    have HV6 := Lib.hid (HV5.out.trans (hb.mono (by omega)))
    have MI6 : Hid ((Tryz.prog.info? 31).map (·.size) = some (mcL a6 m').length) := Lib.hid Tryz.sizeMc
    have hz6 : gx + 1 < w6.heap.size := Nat.lt_of_lt_of_le HZ5.out.lt hb.size
    clear hk hb CT HKS HZ5 HV5 HC
    go_upto_region 7 with (fail)
    refine' wp_region_sureX (by kernel_rfl) (LoX (fun W => Below gx w W ∧ KS W b3 kb a6 m' p' pb6 z6 a60 m60 x0 x1 x2 tl ∧ gx + 1 < W.heap.size) (fun W => Whole W (gx + 1) 31 zeroML.toArray) (fun W => Whole W (gx + 1) 31 (mcL a6 m').toArray) 99 8 0 0 (gx + 1) 5 []) 9 [some _, some _, some _, some _, some _, some _, some _, some _, some undef] [some 54, some 55, some 56, some 57, some 58, some 59, some 60, some 61, none] (by kernel_rfl) (by kernel_rfl) (by kernel_rfl) (by kernel_rfl) rfl (LoX.init ⟨HV6.out.drew, HK6.out.below (Below.refl w6.heap.size w6).drew, Nat.lt_of_lt_of_le hz6 ((Below.refl w6.heap.size w6).drew).size⟩ (HZ6.out.below (Below.refl w6.heap.size w6).drew HZ6.out.lt)) ?hs2
    case hs2 =>
      refine sureX_cons ?_ ?_
      · intro L ac W K hLi hed hJ hX hK
        have hA9 : ac.eval (.tmp 9) = .pointer (some ⟨kb, 0, none⟩) := hJ.eval_old 9 (by kernel_rfl)
        have hsz := Lib.hid hJ.size
        have hI := hX.1
        clear hLi hed hJ
        refine opStep_of rfl ?_
        unfold Oper.wp execOp
        have hN9 := evalN hA9
        go_simp
        refine hK _ _ ?_ (hX.same rfl rfl rfl)
        exact Knows.known _
      refine sureX_cons ?_ ?_
      · intro L ac W K hLi hed hJ hX hK
        have hn := needs_spec (l := [0]) (by kernel_rfl) hed
        have hA54 := hJ.eval 0 (d := 54) (hn 0 (by simp)) rfl rfl rfl
        have hsz := Lib.hid hJ.size
        have hI := hX.1
        clear hLi hed hJ hn
        refine opStep_of rfl ?_
        unfold Oper.wp execOp
        have hN54 := evalN hA54
        go_simp
        refine hK _ _ ?_ (hX.same rfl rfl rfl)
        exact Knows.known _
      refine sureX_cons ?_ ?_
      · intro L ac W K hLi hed hJ hX hK
        have hn := needs_spec (l := [1]) (by kernel_rfl) hed
        have hA55 := hJ.eval 1 (d := 55) (hn 1 (by simp)) rfl rfl rfl
        have hsz := Lib.hid hJ.size
        have hI := hX.1
        clear hLi hed hJ hn
        refine opStep_of rfl ?_
        unfold Oper.wp execOp
        have hN55 := evalN hA55
        go_simp
        refine hK _ _ ?_ (hX.same rfl rfl rfl)
        exact Knows.known _
      refine sureX_cons ?_ ?_
      · intro L ac W K hLi hed hJ hX hK
        have hn := needs_spec (l := [2]) (by kernel_rfl) hed
        have hA56 := hJ.eval 2 (d := 56) (hn 2 (by simp)) rfl rfl rfl
        have hsz := Lib.hid hJ.size
        have hI := hX.1
        clear hLi hed hJ hn
        refine opStep_of rfl ?_
        refine oper_load_at 31 (.tmp 56) rfl ⟨kb, 0, none⟩ hA56 (mcL a6 m') _ hI.2.1.load Tryz.underlying31 rfl MI6.out ?_
        refine hK _ _ ?_ (hX.same rfl rfl rfl)
        exact Knows.known _
      refine sureX_cons ?_ ?_
      · intro L ac W K hLi hed hJ hX hK
        have hA9 : ac.eval (.tmp 9) = .pointer (some ⟨kb, 0, none⟩) := hJ.eval_old 9 (by kernel_rfl)
        have hsz := Lib.hid hJ.size
        have hI := hX.1
        clear hLi hed hJ
        refine opStep_of rfl ?_
        unfold Oper.wp execOp
        have hN9 := evalN hA9
        go_simp
        refine hK _ _ ?_ (hX.same rfl rfl rfl)
        exact Knows.known _
      refine sureX_cons ?_ ?_
      · intro L ac W K hLi hed hJ hX hK
        have hn := needs_spec (l := [4]) (by kernel_rfl) hed
        have hA58 := hJ.eval 4 (d := 58) (hn 4 (by simp)) rfl rfl rfl
        have hsz := Lib.hid hJ.size
        have hI := hX.1
        clear hLi hed hJ hn
        refine opStep_of rfl ?_
        unfold Oper.wp execOp
        have hN58 := evalN hA58
        go_simp
        refine hK _ _ ?_ (hX.same rfl rfl rfl)
        exact Knows.known _
      refine sureX_cons ?_ ?_
      · intro L ac W K hLi hed hJ hX hK
        have hn := needs_spec (l := [5]) (by kernel_rfl) hed
        have hA59 := hJ.eval 5 (d := 59) (hn 5 (by simp)) rfl rfl rfl
        have hsz := Lib.hid hJ.size
        have hI := hX.1
        clear hLi hed hJ hn
        refine opStep_of rfl ?_
        unfold Oper.wp execOp
        have hN59 := evalN hA59
        go_simp
        refine hK _ _ ?_ (hX.same rfl rfl rfl)
        exact Knows.known _
      refine sureX_cons ?_ ?_
      · intro L ac W K hLi hed hJ hX hK
        have hn := needs_spec (l := [6]) (by kernel_rfl) hed
        have hA60 := hJ.eval 6 (d := 60) (hn 6 (by simp)) rfl rfl rfl
        have hsz := Lib.hid hJ.size
        have hI := hX.1
        clear hLi hed hJ hn
        refine opStep_of rfl ?_
        have cc : W.cell? ⟨kb, 38, none⟩ = some (S tl) := hI.2.1.ker.cell 38
        unfold Oper.wp execOp
        have hN60 := evalN hA60
        go_simp
        refine hK _ _ ?_ (hX.same rfl rfl rfl)
        exact Knows.known _
      refine sureX_cons ?_ ?_
      · intro L ac W K hLi hed hJ hX hK
        have hn := needs_spec (l := [3]) (by kernel_rfl) hed
        have hA4 : ac.eval (.tmp 4) = .pointer (some ⟨gx + 1, 0, none⟩) := hJ.eval_old 4 (by kernel_rfl)
        have hA57 := hJ.eval 3 (d := 57) (hn 3 (by simp)) rfl rfl rfl
        have hsz := Lib.hid hJ.size
        have hI := hX.1
        have hC := hX.2.1 hLi
        clear hLi hed hJ hn
        refine opStep_of rfl ?_
        refine oper_store_all 31 (.tmp 4) (.tmp 57) rfl rfl (gx + 1) hA4 (mcL a6 m') hA57 MI6.out zeroML 31 hC rfl (mcL_one a6 m') ?_
        intro wf hwf hkf
        exact hK undef wf (Knows.known _) (hX.store rfl ⟨hI.1.grown hkf (by have := hI.1.size; have := HGX.out; omega) (fun q e => by injection e with e; omega), hI.2.1.far hkf (by omega), Nat.lt_of_lt_of_le hI.2.2 hkf.size⟩ hwf hkf)
      refine sureX_nil ?_
      intro L ac W hL hX ha
      have hI := hX.1
      have hC := hX.2.2.1 (hL 8 (by omega))
      rw [ha]
      simp only [mendAll, Option.getD_some, Option.map_some, putAll, Act.put, List.setIfInBounds_toArray, List.set_cons_zero, List.set_cons_succ]
      clear ha hX hL
      have HB9 := Lib.hid hI.1
      have HK9 := Lib.hid hI.2.1
      have HC9 := Lib.hid hC
      clear hI hC
      go_wp2_with fail
      refine bodyPost_ret (v := .tuple #[.agg (mcL a6 m').toArray, S tl]) (results_cell_tmp rfl _ _ (gx + 1) 31 _ _ (0, 0) _ rfl rfl HC9.out Tryz.underlying31 rfl (by rw [List.size_toArray]; exact MI6.out)) rfl ?_
      exact ⟨⟨a6, rfl, HK9.out.om.mat, HK9.out.om.mb fun g hg => by have := hg.1; have := HGX.out; omega, ⟨_, HK9.out.om.aP⟩, HK9.out.om.mu⟩, HK9.out.good, by rw [HGX.out]; exact HB9.out⟩
end Go.Proofs.YtdhfblfnejmeiaaGreatDoor
