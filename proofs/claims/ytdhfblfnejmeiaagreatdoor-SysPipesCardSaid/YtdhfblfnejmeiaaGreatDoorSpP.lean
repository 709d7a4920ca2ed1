/-
  Plain facts: bytes laid into a frame; how many open files read and write a pipe; a machine with other frames, pipes.
-/
import Derived.Test.YtdhfblfnejmeiaaGreatDoorSpA
namespace Go.Proofs.YtdhfblfnejmeiaaGreatDoor
open Go.RowKit

/-- a frame with bytes from a place on -/
def putF (f : List UInt8) (pl : Nat) (d : List UInt8) : List UInt8 := f.take pl ++ d ++ f.drop (pl + d.length)
theorem putF_length {f d : List UInt8} {pl : Nat} (h : pl + d.length ≤ f.length) : (putF f pl d).length = f.length := by
  unfold putF; simp; omega
theorem putF_get {f d : List UInt8} {pl : Nat} (h : pl + d.length ≤ f.length) : ((putF f pl d).drop pl).take d.length = d := by
  unfold putF
  have e : (f.take pl).length = pl := by rw [List.length_take]; omega
  have e2 : (f.take pl ++ d ++ f.drop (pl + d.length)).drop pl = d ++ f.drop (pl + d.length) := by
    rw [List.append_assoc]
    exact List.drop_left' e
  rw [e2, List.take_left]
/-- an address in a page of a process: its frame, its place there, and so many bytes of it -/
structure Spot (sp : List Pg) (fs : List (List UInt8)) (ad n fr pl : Nat) (f : List UInt8) : Prop where
  lt : ad < 2048
  len : sp.length = 16
  page : sp[ad / 128]? = some ⟨true, true, (fr : Int)⟩
  plc : ad % 128 = pl
  room : pl + n ≤ 128
  frm : fs[fr]? = some f
  fl : f.length = 128
  frl : fs.length ≤ 1000000
theorem Spot.lay {sp : List Pg} {fs : List (List UInt8)} {ad n fr pl : Nat} {f : List UInt8} (h : Spot sp fs ad n fr pl f) (d : List UInt8) (hd : pl + d.length ≤ 128) : Spot sp (fs.set fr (putF f pl d)) ad n fr pl (putF f pl d) :=
  ⟨h.lt, h.len, h.page, h.plc, h.room, by
    have := (List.getElem?_eq_some_iff.1 h.frm).1
    rw [List.getElem?_set_self this], by rw [putF_length (by rw [h.fl]; exact hd)]; exact h.fl, by rw [List.length_set]; exact h.frl⟩
theorem Spot.short {sp : List Pg} {fs : List (List UInt8)} {ad n k fr pl : Nat} {f : List UInt8} (h : Spot sp fs ad n fr pl f) (hk : k ≤ n) : Spot sp fs ad k fr pl f := ⟨h.lt, h.len, h.page, h.plc, by have := h.room; omega, h.frm, h.fl, h.frl⟩
/-- how many open files of a kind have a number -/
def endsF (fds : List Fl) (id k : Int) : Nat := (fds.filter fun f => f.n == id && f.kind == k).length
theorem endsF_take {fds : List Fl} {j : Nat} {f : Fl} (h : fds[j]? = some f) (id k : Int) : endsF (fds.take (j + 1)) id k = endsF (fds.take j) id k + (if f.n == id && f.kind == k then 1 else 0) := by
  unfold endsF
  rw [List.take_add_one, h, List.filter_append, List.length_append]
  congr 1
  simp only [Option.toList_some, List.filter_cons, List.filter_nil]
  split <;> simp_all
theorem endsF_le (fds : List Fl) (id k : Int) : endsF fds id k ≤ fds.length := List.length_filter_le _ _
/-- the numbers that are free -/
def freeF (fds : List Fl) (j : Nat) : List Int := ((List.range j).filter fun i => (fds.getD i ⟨0, 0, 0⟩).kind == 0).map fun (i : Nat) => (i : Int)
theorem freeF_succ {fds : List Fl} {j : Nat} {f : Fl} (h : fds[j]? = some f) : freeF fds (j + 1) = freeF fds j ++ (if f.kind == 0 then [(j : Int)] else []) := by
  unfold freeF
  rw [List.range_succ, List.filter_append, List.map_append]
  congr 1
  have : fds.getD j ⟨0, 0, 0⟩ = f := by rw [List.getD_eq_getElem?_getD, h]; rfl
  simp only [List.filter_cons, List.filter_nil, this]
  split <;> simp
theorem Good.other {m : Mc} {p : Pr} (h : Good m p) (fs : List (List UInt8)) (qs : List Nb) (np told : Int) (hf : fs.length ≤ 274877906944) (hq : ∀ q ∈ qs, inJ8 q.1) (hl : qs.length ≤ 1000) (hn : inJ8 np) (ht : inU64 told) : Good { m with frames := fs, pipes := qs, newPipe := np, told := told } p :=
  ⟨h.one, h.pid, h.cur, h.ok, ⟨h.mc.clock, h.mc.quantum, h.mc.cur, h.mc.left, h.mc.next, hn, ht, h.mc.dleft, h.mc.procs, hq, h.mc.pend, h.mc.dirty, by have := h.mc.sizes; exact ⟨hf, this.2.1, by simp only; omega, this.2.2.2⟩⟩⟩
end Go.Proofs.YtdhfblfnejmeiaaGreatDoor
