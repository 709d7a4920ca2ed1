/-
  Plain facts of the small machine of SysPipes.
-/
import Derived.Test.YtdhfblfnejmeiaaGreatDoorSpG
namespace Go.Proofs.YtdhfblfnejmeiaaGreatDoor

def sp0 : List Pg := ⟨true, true, 0⟩ :: (List.replicate 14 ⟨false, false, 0⟩ ++ [⟨true, true, 1⟩])
def fdZ : Fl := ⟨0, 0, 0⟩
def fds0 : List Fl := [⟨1, 0, 0⟩, ⟨2, 0, 0⟩, fdZ, fdZ, fdZ, fdZ, fdZ, fdZ]
def fds2 : List Fl := [⟨1, 0, 0⟩, ⟨2, 0, 0⟩, ⟨4, 1, 0⟩, ⟨5, 1, 0⟩, fdZ, fdZ, fdZ, fdZ]
def fds3 : List Fl := [⟨1, 0, 0⟩, ⟨2, 0, 0⟩, ⟨4, 1, 0⟩, fdZ, fdZ, fdZ, fdZ, fdZ]
/-- the small machine, as far as it matters -/
structure LS (m : Mc) (p : Pr) (fds : List Fl) (qs : List Nb) : Prop where
  good : Good m p
  st : p.state = 1
  pc : p.pc = 8
  sp : p.space = sp0
  fds : p.fds = fds
  qs : m.pipes = qs
  fl : m.frames.length = 4
  fr : ∀ f ∈ m.frames, f.length = 128
  inp : m.inp = []
  fin : m.fin = false
section
variable {m : Mc} {p : Pr} {fds : List Fl} {qs : List Nb}
theorem LS.spot0 (h : LS m p fds qs) {ad n : Nat} (hn : 0 < n) (h1 : ad + n ≤ 128) : ∃ f, Spot p.space m.frames ad n 0 ad f := by
  have h4 := h.fl
  refine ⟨m.frames[0]'(by omega), by omega, by rw [h.sp]; rfl, ?_, by omega, h1, List.getElem?_eq_getElem _, h.fr _ (List.getElem_mem _), by omega⟩
  rw [show ad / 128 = 0 by omega, h.sp]; rfl
theorem LS.spot15 (h : LS m p fds qs) {n : Nat} (h1 : n ≤ 128) : ∃ f, Spot p.space m.frames 1920 n 1 0 f := by
  have h4 := h.fl
  refine ⟨m.frames[1]'(by omega), by omega, by rw [h.sp]; rfl, ?_, by omega, by omega, List.getElem?_eq_getElem _, h.fr _ (List.getElem_mem _), by omega⟩
  rw [h.sp]; rfl
/-- another number in a register -/
theorem LS.reg (h : LS m p fds qs) (i : Nat) {x : Int} (hx : inU32 x) : LS { m with procs := [p.reg i x] } (p.reg i x) fds qs :=
  ⟨h.good.proc _ (h.good.ok.setReg i hx) h.good.pid, h.st, h.pc, h.sp, h.fds, h.qs, h.fl, h.fr, h.inp, h.fin⟩
/-- other frames of the same form -/
theorem LS.lay (h : LS m p fds qs) {ad n fr pl : Nat} {f : List UInt8} (hs : Spot p.space m.frames ad n fr pl f) (d : List UInt8) (hd : pl + d.length ≤ 128) : LS { m with frames := m.frames.set fr (putF f pl d) } p fds qs :=
  ⟨h.good.frames (by rw [List.length_set]), h.st, h.pc, h.sp, h.fds, h.qs, by rw [List.length_set]; exact h.fl, fun x hx => (List.mem_or_eq_of_mem_set hx).elim (h.fr x) (fun e => by
    rw [e, putF_length (by rw [hs.fl]; exact hd)]; exact hs.fl), h.inp, h.fin⟩
end
end Go.Proofs.YtdhfblfnejmeiaaGreatDoor
