/-
  How great a machine's lists are, by the bulk of what is read.
-/
import Derived.Test.YtfdflkddmgninaaGreatDoorArgsM
namespace Go.Proofs.YtfdflkddmgninaaGreatDoor
open Go.ChangeShapes Go.WideShapes Go.ChangeAt Go.RowKit

section
variable {H : Type} {enc : TypeId × Value → H} {W : World} {sp : Nat → Bool} {held : Bool}
theorem bulk_pos (d : DataW H) : 1 ≤ Rows.uptoBulk d := by
  cases d with
  | lit l => cases l <;> simp [Rows.uptoBulk]
  | _ => simp [Rows.uptoBulk]
theorem bulk_len : ∀ l : List (DataW H), l.length ≤ Rows.uptoBulkAll l
  | [] => by simp [Rows.uptoBulkAll]
  | d :: l => by
    have h1 := bulk_pos d
    have h2 := bulk_len l
    simp only [List.length_cons, Rows.uptoBulkAll]; omega
theorem bulk_slice {fuel : Nat} {t e : TypeId} {A : Option Addr} {n c : Nat} {y : DataW H × List MemPlace} (hu : Tryz.prog.underlying t = some (.slice e)) (h : DataW.trod enc Tryz.prog W 0 sp held fuel t [.slice A n c] = some y) : n ≤ Rows.uptoBulk y.1 := by
  rcases DataW.trod_slice hu h with ⟨hcs, _⟩ | ⟨a, len, cap, elems, rest, _, _, hcs, rfl, _, _, _, hl, _⟩
  · injection hcs with hcs; injection hcs with _ h2; omega
  · injection hcs with hcs; injection hcs with _ h2
    have := bulk_len (elems.map (·.1))
    rw [List.length_map] at this
    simp only [Rows.uptoBulk]; omega
theorem bulk_text {fuel : Nat} {s : List UInt8} {y : DataW H × List MemPlace} (h : DataW.trod enc Tryz.prog W 0 sp held fuel 9 [S s] = some y) : s.length ≤ Rows.uptoBulk y.1 := by
  obtain ⟨b, hb, rfl, _⟩ := DataW.trod_string Tryz.underlying9 h
  injection hb with hb
  injection hb with hb
  subst hb
  simp [Rows.uptoBulk]
theorem bulk_mem : ∀ {l : List (DataW H × List MemPlace)} {k : Nat} {x : DataW H × List MemPlace}, l[k]? = some x → Rows.uptoBulk x.1 ≤ Rows.uptoBulkAll (l.map (·.1))
  | [], _, _, h => by simp at h
  | y :: l, 0, x, h => by
    obtain rfl : y = x := by simpa using h
    simp only [List.map_cons, Rows.uptoBulkAll]; omega
  | y :: l, k + 1, x, h => by
    have := bulk_mem (l := l) (k := k) (x := x) (by simpa using h)
    simp only [List.map_cons, Rows.uptoBulkAll]; omega
structure Bk (m : Mc) (n : Nat) : Prop where
  frames : m.frames.length ≤ n
  procs : m.procs.length ≤ n
  pipes : m.pipes.length ≤ n
  inp : m.inp.length ≤ n
  blocks : m.blocks.length ≤ n
  pend : m.pend.length ≤ n
  dirty : m.dirty.length ≤ n
set_option maxRecDepth 100000 in
set_option maxHeartbeats 1000000 in
theorem bulk_mc {a : MA} {m : Mc} {d : DataW H} {p : List MemPlace} (h : DataW.Trod enc Tryz.prog W 0 sp held 30 (.agg (mcL a m).toArray) d p) : Bk m (Rows.uptoBulk d) := by
  obtain ⟨fuel, hf⟩ := h
  have hf' : DataW.trod enc Tryz.prog W 0 sp held fuel 30 (mcL a m) = some (d, p) := hf
  obtain ⟨xs, n, _, hx, hlen, hxl, hg⟩ := DataW.trod_struct Tryz.underlying30 hf'
  have f4 := hg 4 _ rfl
  have f5 := hg 5 _ rfl
  have f8 := hg 8 _ rfl
  have f10 := hg 10 _ rfl
  have f13 := hg 13 _ rfl
  have f14 := hg 14 _ rfl
  have hd : d = .agg (xs.map (·.1)) := congrArg Prod.fst hx
  have hall : ∀ (k : Nat) (x : DataW H × List MemPlace), xs[k]? = some x → Rows.uptoBulk x.1 ≤ Rows.uptoBulk d := fun k x hk => by
    have := bulk_mem hk
    rw [hd]; simp only [Rows.uptoBulk]; omega
  clear hd hx hf hf' hg
  match xs, hxl with
  | [x0, x1, x2, x3, x4, x5, x6, x7, x8, x9, x10, x11, x12, x13, x14], _ =>
    change DataW.trod _ _ _ _ _ _ _ 23 (((mcL a m).drop 4).take (Tryz.prog.cellsOf 23)) = some x4 at f4
    rw [show Tryz.prog.cellsOf 23 = 1 by kernel_rfl] at f4
    change DataW.trod _ _ _ _ _ _ _ 23 [.slice a.F m.frames.length a.cF] = some x4 at f4
    change DataW.trod _ _ _ _ _ _ _ 24 (((mcL a m).drop 5).take (Tryz.prog.cellsOf 24)) = some x5 at f5
    rw [show Tryz.prog.cellsOf 24 = 1 by kernel_rfl] at f5
    change DataW.trod _ _ _ _ _ _ _ 24 [.slice a.P m.procs.length a.cP] = some x5 at f5
    change DataW.trod _ _ _ _ _ _ _ 25 (((mcL a m).drop 8).take (Tryz.prog.cellsOf 25)) = some x8 at f8
    rw [show Tryz.prog.cellsOf 25 = 1 by kernel_rfl] at f8
    change DataW.trod _ _ _ _ _ _ _ 25 [.slice a.Q m.pipes.length a.cQ] = some x8 at f8
    change DataW.trod _ _ _ _ _ _ _ 9 (((mcL a m).drop 10).take (Tryz.prog.cellsOf 9)) = some x10 at f10
    rw [show Tryz.prog.cellsOf 9 = 1 by kernel_rfl] at f10
    change DataW.trod _ _ _ _ _ _ _ 9 [S m.inp] = some x10 at f10
    change DataW.trod _ _ _ _ _ _ _ 28 (((mcL a m).drop 13).take (Tryz.prog.cellsOf 28)) = some x13 at f13
    rw [show Tryz.prog.cellsOf 28 = 3 by kernel_rfl] at f13
    change DataW.trod _ _ _ _ _ _ _ 28 [.slice a.L m.blocks.length a.cL, .slice a.N m.pend.length a.cN, .int .i64 m.dleft] = some x13 at f13
    change DataW.trod _ _ _ _ _ _ _ 26 (((mcL a m).drop 16).take (Tryz.prog.cellsOf 26)) = some x14 at f14
    rw [show Tryz.prog.cellsOf 26 = 1 by kernel_rfl] at f14
    change DataW.trod _ _ _ _ _ _ _ 26 [.slice a.D m.dirty.length a.cD] = some x14 at f14
    have q4 := Nat.le_trans (bulk_slice Tryz.underlying23 f4) (hall 4 x4 rfl)
    have q5 := Nat.le_trans (bulk_slice Tryz.underlying24 f5) (hall 5 x5 rfl)
    have q8 := Nat.le_trans (bulk_slice Tryz.underlying25 f8) (hall 8 x8 rfl)
    have q10 := Nat.le_trans (bulk_text f10) (hall 10 x10 rfl)
    have q14 := Nat.le_trans (bulk_slice Tryz.underlying26 f14) (hall 14 x14 rfl)
    have q13 := hall 13 x13 rfl
    obtain ⟨zs, n', _, hz, _, hzl, hzg⟩ := DataW.trod_struct Tryz.underlying28 f13
    have g0 := hzg 0 _ rfl
    have g1 := hzg 1 _ rfl
    have hd2 : x13.1 = .agg (zs.map (·.1)) := congrArg Prod.fst hz
    have hall2 : ∀ (k : Nat) (x : DataW H × List MemPlace), zs[k]? = some x → Rows.uptoBulk x.1 ≤ Rows.uptoBulk x13.1 := fun k x hk => by
      have := bulk_mem hk
      rw [hd2]; simp only [Rows.uptoBulk]; omega
    clear hd2 hz hzg
    match zs, hzl with
    | [z0, z1, z2], _ =>
      change DataW.trod _ _ _ _ _ _ _ 23 (([Value.slice a.L m.blocks.length a.cL, .slice a.N m.pend.length a.cN, .int .i64 m.dleft].drop 0).take (Tryz.prog.cellsOf 23)) = some z0 at g0
      rw [show Tryz.prog.cellsOf 23 = 1 by kernel_rfl] at g0
      change DataW.trod _ _ _ _ _ _ _ 23 [.slice a.L m.blocks.length a.cL] = some z0 at g0
      change DataW.trod _ _ _ _ _ _ _ 26 (([Value.slice a.L m.blocks.length a.cL, .slice a.N m.pend.length a.cN, .int .i64 m.dleft].drop 1).take (Tryz.prog.cellsOf 26)) = some z1 at g1
      rw [show Tryz.prog.cellsOf 26 = 1 by kernel_rfl] at g1
      change DataW.trod _ _ _ _ _ _ _ 26 [.slice a.N m.pend.length a.cN] = some z1 at g1
      have r0 := Nat.le_trans (bulk_slice Tryz.underlying23 g0) (hall2 0 z0 rfl)
      have r1 := Nat.le_trans (bulk_slice Tryz.underlying26 g1) (hall2 1 z1 rfl)
      exact ⟨q4, q5, q8, q10, Nat.le_trans r0 q13, Nat.le_trans r1 q13, q14⟩
end
theorem McOk'.bulk {m : Mc} {n : Nat} (h : McOk' m) (b : Bk m n) (hn : n ≤ 1048576) : McOk m := by
  have h1 := b.frames
  have h2 := b.procs
  have h3 := b.blocks
  have h4 := b.pend
  have h5 := b.dirty
  exact h.small (by omega) (by omega) (by omega) (by omega) (by omega)
end Go.Proofs.YtfdflkddmgninaaGreatDoor
