/-
  The calls that SysPipes does, at its small machine.
-/
import Derived.Test.YtdhfblfnejmeiaaGreatDoorSpU
import Derived.Test.YtdhfblfnejmeiaaGreatDoorSpS
import Derived.Test.YtdhfblfnejmeiaaGreatDoorSpL
namespace Go.Proofs.YtdhfblfnejmeiaaGreatDoor
open Go.RowKit

theorem argP_reg {p : Pr} (h : PrOk p) (x0 x1 x2 : Int) : (argP p x0 x1 x2 3).regs[1]? = some x0 ∧ (argP p x0 x1 x2 3).regs[2]? = some x1 ∧ (argP p x0 x1 x2 3).regs[3]? = some x2 := by
  have := h.regs
  simp [argP, Pr.reg, this]
/-- the machine behind a call's answer -/
abbrev DoR (w : World) (m' : Mc) (p' : Pr) (tl : List UInt8) (e : Ending) (w' : World) : Prop :=
  (∃ a', e = .returned (.tuple #[.agg (mcL a' m').toArray, S tl]) ∧ MAt w' w'.heap.size a' m' ∧ MB w.heap.size a' ∧ (∃ pb, a'.P = some ⟨pb, 0, none⟩) ∧ MU w'.heap.size a') ∧ Good m' p' ∧ Below w.heap.size w w'
theorem MAt.pcell {w : World} {B pb : Nat} {a : MA} {m : Mc} {p : Pr} (h : MAt w B a m) (hm : m.procs = [p]) (hp : a.P = some ⟨pb, 0, none⟩) {k : Nat} {v : Value} (hv : (prCells p)[k]? = some v) : w.cell? ⟨pb, k, none⟩ = some v := by
  obtain ⟨ad, e, hb, hc⟩ := h.P k v (by rw [hm]; simpa [prsCells] using hv)
  rw [hp] at e; injection e with e; subst e
  rw [← hc]; congr 1; unfold Addr.add; split <;> simp_all
section
variable {w : World} {a : MA} {m : Mc} {p : Pr} {fds : List Fl} {qs : List Nb}
theorem LS.arg (h : LS m p fds qs) {x0 x1 x2 : Int} (h0 : inU32 x0) (h1 : inU32 x1) (h2 : inU32 x2) : LS { m with procs := [argP p x0 x1 x2 3] } (argP p x0 x1 x2 3) fds qs := ((h.reg 1 h0).reg 2 h1).reg 3 h2
theorem LS.piped (h : LS m p fds0 []) (hn : m.newPipe = 1) {m' : Mc} {p' : Pr} (hg : Good m' p') (hm : m' = { m with pipes := m.pipes ++ [(m.newPipe, [])], newPipe := m.newPipe + 1, procs := [p'] }) (hp : p' = (((p.fdSet 2 ⟨4, m.newPipe, 0⟩).fdSet 3 ⟨5, m.newPipe, 0⟩).reg 1 (2 : Nat)).reg 2 (3 : Nat)) : LS m' p' fds2 [(1, [])] := by
  subst hm hp
  exact ⟨hg, h.st, h.pc, h.sp, by show (p.fds.set 2 _).set 3 _ = fds2; rw [h.fds, hn]; rfl, by show m.pipes ++ [(m.newPipe, [])] = _; rw [h.qs, hn]; rfl, h.fl, h.fr, h.inp, h.fin⟩
theorem do_pipe (h : LS m p fds0 []) (hn : m.newPipe = 1) (hA : MAt w w.heap.size a m) : ∃ m' p', LS m' p' fds2 [(1, [])] ∧ p'.regs[1]? = some 2 ∧ p'.regs[2]? = some 3 ∧ Calls Tryz.prog 5 #[.agg (mcL a m).toArray, .int .u32 5] w (DoR w m' p' []) := by
  obtain ⟨x0, h1⟩ := reg_some h.good.ok (i := 1) (by decide)
  obtain ⟨x1, h2⟩ := reg_some h.good.ok (i := 2) (by decide)
  obtain ⟨x2, h3⟩ := reg_some h.good.ok (i := 3) (by decide)
  have hr := h.good.ok.regs
  have hc := do_any w a m p h.good hA (by rw [h.qs]; simp) h.st x0 x1 x2 h1 h2 h3 5 _ _ [] (fun W B kb a2 pb z _ hK => call_pipe W kb _ (kpipe_any hK 2 3 [4, 5, 6, 7] (by rw [h.fds]; decide) (by decide) (by decide) (by rw [h.qs]; decide) (by rw [hn]; decide)))
  obtain ⟨e, w', fr, hR, _⟩ := hc []
  exact ⟨_, _, h.piped hn hR.2.1 rfl rfl, by simp [Pr.reg, Pr.fdSet, hr], by simp [Pr.reg, Pr.fdSet, hr], hc⟩
theorem do_wpipe (h : LS m p fds2 [(1, [])]) (hA : MAt w w.heap.size a m) {s f : List UInt8} (hs : 0 < s.length) (hs2 : s.length ≤ 60) (hf : m.frames[0]? = some f) (hd : (f.drop 4).take s.length = s) (h1 : p.regs[1]? = some 3) (h2 : p.regs[2]? = some 4) (h3 : p.regs[3]? = some (s.length : Int)) :
    Calls Tryz.prog 5 #[.agg (mcL a m).toArray, .int .u32 2] w (DoR w { m with pipes := [(1, s)], procs := [p.reg 1 s.length] } (p.reg 1 s.length) []) := by
  obtain ⟨f', hS⟩ := h.spot0 (ad := 4) hs (by omega)
  obtain rfl : f = f' := by have := hS.frm; rw [hf] at this; injection this
  refine do_any w a m p h.good hA (by rw [h.qs]; simp) h.st 3 4 s.length h1 h2 h3 2 _ _ [] (fun W B kb a2 pb z _ hK => ?_)
  have hK : KS W B kb a2 m p pb z a m ((3 : Nat) : Int) ((4 : Nat) : Int) (s.length : Int) [] := hK
  have hw := write_pipe hK (by decide) hs (by omega) ⟨5, 1, 0⟩ (by rw [h.fds]; rfl) rfl 0 4 f hS (1, []) rfl h.qs (by show 0 + _ ≤ _; omega) (by rw [h.fds]; decide)
  rw [hd] at hw
  exact call_write W kb _ hw
theorem do_rpipe {s f : List UInt8} (h : LS m p fds2 [(1, s)]) (hA : MAt w w.heap.size a m) (hs : 0 < s.length) (hs2 : s.length ≤ 60) (hf : m.frames[1]? = some f) (h1 : p.regs[1]? = some 2) (h2 : p.regs[2]? = some 1920) (h3 : p.regs[3]? = some 128) :
    Calls Tryz.prog 5 #[.agg (mcL a m).toArray, .int .u32 1] w (DoR w { m with pipes := [(1, [])], frames := m.frames.set 1 (putF f 0 s), procs := [p.reg 1 s.length] } (p.reg 1 s.length) []) := by
  obtain ⟨f', hS⟩ := h.spot15 (n := 128) (by omega)
  obtain rfl : f = f' := by have := hS.frm; rw [hf] at this; injection this
  refine do_any w a m p h.good hA (by rw [h.qs]; simp) h.st 2 1920 128 h1 h2 h3 1 _ _ [] (fun W B kb a2 pb z _ hK => ?_)
  have hK : KS W B kb a2 m p pb z a m ((2 : Nat) : Int) ((1920 : Nat) : Int) ((128 : Nat) : Int) [] := hK
  exact call_read W kb _ (read_pipe hK (by decide) (by decide) (by decide) ⟨4, 1, 0⟩ (by rw [h.fds]; rfl) rfl 1 0 f hS (1, s) rfl h.qs (by show s ≠ []; intro e; subst e; simp at hs) (by show s.length ≤ 128; omega))
theorem do_close (h : LS m p fds2 [(1, [])]) (hA : MAt w w.heap.size a m) (h1 : p.regs[1]? = some 3) :
    Calls Tryz.prog 5 #[.agg (mcL a m).toArray, .int .u32 4] w (DoR w { m with procs := [(p.fdSet 3 ⟨0, 0, 0⟩).reg 1 0] } ((p.fdSet 3 ⟨0, 0, 0⟩).reg 1 0) []) := by
  obtain ⟨x1, h2⟩ := reg_some h.good.ok (i := 2) (by decide)
  obtain ⟨x2, h3⟩ := reg_some h.good.ok (i := 3) (by decide)
  refine do_any w a m p h.good hA (by rw [h.qs]; simp) h.st 3 x1 x2 h1 h2 h3 4 _ _ [] (fun W B kb a2 pb z _ hK => ?_)
  have hK : KS W B kb a2 m p pb z a m ((3 : Nat) : Int) x1 x2 [] := hK
  exact call_close W kb _ (close_any hK (1, []) h.qs (by decide) ⟨5, 1, 0⟩ (by rw [h.fds]; rfl) (by decide) (by show endsF (p.fds.set 3 ⟨0, 0, 0⟩) 1 4 ≠ 0; rw [h.fds]; decide))
theorem do_rend (h : LS m p fds3 [(1, [])]) (hA : MAt w w.heap.size a m) (h1 : p.regs[1]? = some 2) (h2 : p.regs[2]? = some 0) (h3 : p.regs[3]? = some 9) :
    Calls Tryz.prog 5 #[.agg (mcL a m).toArray, .int .u32 1] w (DoR w { m with procs := [p.reg 1 0] } (p.reg 1 0) []) := by
  obtain ⟨f, hS⟩ := h.spot0 (ad := 0) (n := 9) (by decide) (by decide)
  refine do_any w a m p h.good hA (by rw [h.qs]; simp) h.st 2 0 9 h1 h2 h3 1 _ _ [] (fun W B kb a2 pb z _ hK => ?_)
  have hK : KS W B kb a2 m p pb z a m ((2 : Nat) : Int) ((0 : Nat) : Int) ((9 : Nat) : Int) [] := hK
  exact call_read W kb _ (read_end hK (by decide) (by decide) (by decide) ⟨4, 1, 0⟩ (by rw [h.fds]; rfl) rfl 0 0 f hS (1, []) rfl h.qs rfl (by rw [h.fds]; decide))
theorem do_wout (h : LS m p fds0 []) (hA : MAt w w.heap.size a m) {f : List UInt8} (hf : m.frames[0]? = some f) (ht : m.told = 0) (h1 : p.regs[1]? = some 1) (h2 : p.regs[2]? = some 0) (h3 : p.regs[3]? = some 2) :
    Calls Tryz.prog 5 #[.agg (mcL a m).toArray, .int .u32 2] w (DoR w { m with told := m.told + 2, procs := [p.reg 1 2] } (p.reg 1 2) (f.take 2)) := by
  obtain ⟨f', hS⟩ := h.spot0 (ad := 0) (n := 2) (by decide) (by decide)
  obtain rfl : f = f' := by have := hS.frm; rw [hf] at this; injection this
  refine do_any w a m p h.good hA (by rw [h.qs]; simp) h.st 1 0 2 h1 h2 h3 2 _ _ _ (fun W B kb a2 pb z _ hK => ?_)
  have hK : KS W B kb a2 m p pb z a m ((1 : Nat) : Int) ((0 : Nat) : Int) ((2 : Nat) : Int) [] := hK
  exact call_write W kb _ (write_out hK (by decide) (by decide) (by decide) ⟨2, 0, 0⟩ (by rw [h.fds]; rfl) rfl 0 0 f hS (by rw [ht]; decide) (by rw [h.qs]; simp))
theorem do_rin (h : LS m p fds0 []) (hA : MAt w w.heap.size a m) (h1 : p.regs[1]? = some 0) (h2 : p.regs[2]? = some 0) (h3 : p.regs[3]? = some 2) :
    Calls Tryz.prog 5 #[.agg (mcL a m).toArray, .int .u32 1] w (DoR w { m with procs := [{ p with state := 2, why := 1, n := 0, pc := p.pc - 4 }] } { p with state := 2, why := 1, n := 0, pc := p.pc - 4 } []) := by
  obtain ⟨f, hS⟩ := h.spot0 (ad := 0) (n := 2) (by decide) (by decide)
  refine do_any w a m p h.good hA (by rw [h.qs]; simp) h.st 0 0 2 h1 h2 h3 1 _ _ [] (fun W B kb a2 pb z _ hK => ?_)
  have hK : KS W B kb a2 m p pb z a m ((0 : Nat) : Int) ((0 : Nat) : Int) ((2 : Nat) : Int) [] := hK
  exact call_read W kb _ (read_in hK (by decide) (by decide) (by decide) ⟨1, 0, 0⟩ (by rw [h.fds]; rfl) rfl 0 0 f hS h.inp h.fin (by rw [h.pc]; decide))
end
end Go.Proofs.YtdhfblfnejmeiaaGreatDoor
