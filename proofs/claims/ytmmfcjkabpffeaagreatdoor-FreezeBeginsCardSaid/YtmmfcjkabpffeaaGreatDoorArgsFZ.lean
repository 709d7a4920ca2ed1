/-
  A shot and a machine among the arguments, opened.
-/
import Derived.Test.YtmmfcjkabpffeaaGreatDoorFzAliveZ
import Derived.Test.YtmmfcjkabpffeaaGreatDoorArgsO
namespace Go.Proofs.YtmmfcjkabpffeaaGreatDoor
open Go.ChangeShapes Go.WideShapes Go.ChangeAt Go.RowKit

theorem Tryz.cellsShot : Tryz.prog.cellsOf 43 = 4 := by kernel_rfl
theorem int_wf {n : Int} (h : (Lit.int .i64 n).wf = true) : inJ n := by
  simp only [Lit.wf, Bool.and_eq_true, decide_eq_true_eq] at h
  exact h
section
variable {H : Type} {enc : TypeId × Value → H} {W : World}
/-- strings as lists of bytes -/
def lsOf (ss : List ByteArray) : List (List UInt8) := ss.map fun s => s.data.toList
/-- a slice of strings, opened -/
theorem open_strs {sp : Nat → Bool} {held : Bool} {fuel : Nat} {v : Value} {y : DataW H × List MemPlace} (h : DataW.trod enc Tryz.prog W 0 sp held fuel 23 [v] = some y) :
    ∃ (A : Option Addr) (c : Nat) (ls : List (List UInt8)), v = .slice A ls.length c ∧ Strs W W.heap.size A ls := by
  rcases open_strings Tryz.underlying23 Tryz.underlying9 Tryz.cellsString h with ⟨hcs, rfl⟩ | ⟨a, len, cap, ss, hcs, _, hl, hm, hz, rfl, hcell, hsz⟩
  · injection hcs with hcs
    subst hcs
    exact ⟨none, 0, [], rfl, fun k u hu => by simp at hu⟩
  · injection hcs with hcs
    subst hcs
    have hle : len ≤ ss.length := by rw [hz]; split <;> omega
    refine ⟨some a, cap, lsOf (ss.take len), by simp [lsOf, Nat.min_eq_left hle], fun k u hu => ?_⟩
    have hk : k < len := by
      have := (List.getElem?_eq_some_iff.1 hu).1
      simp [lsOf] at this; omega
    have hc := hcell k (by omega)
    refine ⟨a, rfl, ?_, ?_⟩
    · have := World.block_lt_of_cell? W _ hc
      unfold Addr.add at this; split at this <;> exact this
    · rw [hc, ← hu]
      simp [lsOf, hk, List.getD, List.getElem?_eq_getElem (show k < ss.length by omega), S]
/-- a slice of kept things, opened -/
theorem open_kps {sp : Nat → Bool} {held : Bool} {fuel : Nat} {v : Value} {y : DataW H × List MemPlace} (h : DataW.trod enc Tryz.prog W 0 sp held fuel 41 [v] = some y) :
    ∃ (A : Option Addr) (c : Nat) (ws : List Kp), v = .slice A ws.length c ∧ Kps W W.heap.size A ws := by
  have hc2 : Tryz.prog.cellsOf 83 = 2 := by kernel_rfl
  have hci : Tryz.prog.cellsOf 4 = 1 := by kernel_rfl
  rcases DataW.trod_slice Tryz.underlying41 h with ⟨hcs, rfl⟩ | ⟨a, len, cap, elems, rest, n, _, hcs, rfl, _, hlc, hm, hlen, hel, _, _⟩
  · injection hcs with hcs
    subst hcs
    exact ⟨none, 0, [], rfl, fun k u hu => by simp [kCells] at hu⟩
  · injection hcs with hcs
    subst hcs
    rw [hc2] at hel
    have key : ∀ i, i < len → ∃ p : Kp, W.cell? (a.add (i * 2)) = some (.bool p.1) ∧ W.cell? ((a.add (i * 2)).add 1) = some (S p.2) := by
      intro i hi
      have h1 := hel i hi
      rw [List.getElem?_eq_getElem (show i < elems.length by omega)] at h1
      obtain ⟨cs, hcs, htr⟩ := Option.bind_eq_some_iff.1 h1
      obtain ⟨_, hl2, hcell⟩ := World.cells?_some hcs
      obtain ⟨xs, m, _, hx, _, hxl, hf⟩ := DataW.trod_struct Tryz.underlying83 htr
      have f0 := hf 0 _ rfl
      have f1 := hf 1 _ rfl
      match xs, hxl with
      | [x0, x1], _ =>
        change DataW.trod _ _ _ _ _ _ _ 4 ((cs.drop 0).take (Tryz.prog.cellsOf 4)) = some x0 at f0
        change DataW.trod _ _ _ _ _ _ _ 9 ((cs.drop 1).take (Tryz.prog.cellsOf 9)) = some x1 at f1
        rw [hci] at f0
        rw [Tryz.cellsString] at f1
        obtain ⟨z, hz, rfl⟩ := DataW.trod_bool Tryz.underlying4 f0
        obtain ⟨s, hs, rfl, _⟩ := DataW.trod_string Tryz.underlying9 f1
        have g0 : cs[0]? = some (.bool z) := by
          have := congrArg (·[0]?) hz
          simpa [List.getElem?_take, List.getElem?_drop] using this
        have g1 : cs[1]? = some (.string s) := by
          have := congrArg (·[0]?) hs
          simpa [List.getElem?_take, List.getElem?_drop] using this
        refine ⟨(z, s.data.toList), ?_, ?_⟩
        · have := (hcell 0 (by omega)).trans g0
          rwa [show (a.add (i * 2)).add 0 = a.add (i * 2) by unfold Addr.add; simp] at this
        · rw [(hcell 1 (by omega)).trans g1, S_of]
    obtain ⟨ws, hws, hp⟩ := choose_list len key
    refine ⟨some a, cap, ws, by rw [hws], fun k u hu => ?_⟩
    have hk : k < 2 * len := by
      have := (List.getElem?_eq_some_iff.1 hu).1
      rw [kCells_length] at this; omega
    obtain ⟨i, hik⟩ : ∃ i, k = i * 2 ∨ k = i * 2 + 1 := ⟨k / 2, by omega⟩
    have hi : i < ws.length := by omega
    obtain ⟨w0, w1⟩ := kCells_at ws hi
    have h1 : ws[i]? = some (ws[i]'hi) := List.getElem?_eq_getElem hi
    have hg : ws.getD i (false, []) = ws[i]'hi := by simp [List.getD, hi]
    obtain ⟨q0, q1⟩ := hp _ _ h1
    rw [hg] at w0 w1
    have hblk := World.block_lt_of_cell? W _ q0
    rw [add_block] at hblk
    refine ⟨a, rfl, hblk, ?_⟩
    rcases hik with rfl | rfl
    · exact q0.trans (w0.symm.trans hu)
    · have e : (a.add (i * 2)).add 1 = a.add (i * 2 + 1) := by unfold Addr.add; by_cases h : i * 2 = 0 <;> simp [h, Nat.add_assoc]
      rw [e] at q1
      exact q1.trans (w1.symm.trans hu)
/-- whatever slice -/
theorem open_slice {sp : Nat → Bool} {held : Bool} {fuel : Nat} {t e : TypeId} {v : Value} {y : DataW H × List MemPlace} (hu : Tryz.prog.underlying t = some (.slice e)) (h : DataW.trod enc Tryz.prog W 0 sp held fuel t [v] = some y) : ∃ A n c, v = .slice A n c := by
  rcases DataW.trod_slice hu h with ⟨hcs, _⟩ | ⟨a, len, cap, _, _, _, _, hcs, _⟩
  · injection hcs with hcs; exact ⟨_, _, _, hcs⟩
  · injection hcs with hcs; exact ⟨_, _, _, hcs⟩
set_option maxRecDepth 100000 in
/-- a shot, opened -/
theorem open_shot {r : Reach} {b0 : Nat} {sp : Nat → Bool} {held : Bool} {v : Value} {d : DataW H} {p : List MemPlace} (hv : Value.okWide Tryz.prog W r b0 43 v) (h : DataW.Trod enc Tryz.prog W 0 sp held 43 v d p) :
    ∃ (A A' : Option Addr) (c c' : Nat) (ck : Int) (fl bl : List Kp) (t : List UInt8), v = .agg #[.int .u64 ck, .slice A fl.length c, .slice A' bl.length c', S t] ∧ Kps W W.heap.size A fl ∧ Kps W W.heap.size A' bl := by
  obtain ⟨v0, v1, v2, v3, y0, y1, y2, y3, n, rfl, rfl, rfl, h0, h1, h2, h3⟩ := Joins.open_agg4 Tryz.underlying43 (by kernel_rfl) Tryz.cellsShot hv h
  obtain ⟨ck, hk, rfl, _⟩ := DataW.trod_int Tryz.underlying22 h0
  injection hk with hk
  subst hk
  obtain ⟨A, c, fl, rfl, hA⟩ := open_kps h1
  obtain ⟨A', c', bl, rfl, hA'⟩ := open_kps h2
  obtain ⟨s, hs, rfl, _⟩ := DataW.trod_string Tryz.underlying9 h3
  injection hs with hs
  subst hs
  exact ⟨A, A', c, c', ck, fl, bl, s.data.toList, by rw [S_of], hA, hA'⟩
set_option maxRecDepth 100000 in
set_option maxHeartbeats 1000000 in
/-- a machine, opened -/
theorem open_machine {r : Reach} {b0 : Nat} {sp : Nat → Bool} {held : Bool} {v : Value} {d : DataW H} {p : List MemPlace} (hv : Value.okWide Tryz.prog W r b0 30 v) (h : DataW.Trod enc Tryz.prog W 0 sp held 30 v d p) :
    ∃ (M : List Value) (fs bs : List (List UInt8)), v = .agg M.toArray ∧ IsM W W.heap.size M fs bs ∧ IsM' M := by
  obtain ⟨cs, rfl, hsz⟩ := okWide_struct Tryz.underlying30 hv
  obtain ⟨l⟩ := cs
  obtain ⟨fuel, hf⟩ := h
  have hf' : DataW.trod enc Tryz.prog W 0 sp held fuel 30 l = some (d, p) := hf
  obtain ⟨xs, n, _, hx, hlen, hxl, hg⟩ := DataW.trod_struct Tryz.underlying30 hf'
  rw [Tryz.cellsMachine] at hlen
  have one : ∀ k, k < 17 → (l.drop k).take 1 = [l.getD k undef] := fun k hk => by
    rw [List.drop_eq_getElem_cons (by omega), List.getD_eq_getElem?_getD, List.getElem?_eq_getElem (by omega)]
    rfl
  have f0 := hg 0 _ rfl
  have f1 := hg 1 _ rfl
  have f2 := hg 2 _ rfl
  have f3 := hg 3 _ rfl
  have f4 := hg 4 _ rfl
  have f5 := hg 5 _ rfl
  have f6 := hg 6 _ rfl
  have f7 := hg 7 _ rfl
  have f8 := hg 8 _ rfl
  have f9 := hg 9 _ rfl
  have f10 := hg 10 _ rfl
  have f11 := hg 11 _ rfl
  have f12 := hg 12 _ rfl
  have f13 := hg 13 _ rfl
  have f14 := hg 14 _ rfl
  match xs, hxl with
  | [x0, x1, x2, x3, x4, x5, x6, x7, x8, x9, x10, x11, x12, x13, x14], _ =>
    change DataW.trod _ _ _ _ _ _ _ 22 ((l.drop 0).take (Tryz.prog.cellsOf 22)) = some x0 at f0
    change DataW.trod _ _ _ _ _ _ _ 3 ((l.drop 1).take (Tryz.prog.cellsOf 3)) = some x1 at f1
    change DataW.trod _ _ _ _ _ _ _ 3 ((l.drop 2).take (Tryz.prog.cellsOf 3)) = some x2 at f2
    change DataW.trod _ _ _ _ _ _ _ 3 ((l.drop 3).take (Tryz.prog.cellsOf 3)) = some x3 at f3
    change DataW.trod _ _ _ _ _ _ _ 23 ((l.drop 4).take (Tryz.prog.cellsOf 23)) = some x4 at f4
    change DataW.trod _ _ _ _ _ _ _ 24 ((l.drop 5).take (Tryz.prog.cellsOf 24)) = some x5 at f5
    change DataW.trod _ _ _ _ _ _ _ 3 ((l.drop 6).take (Tryz.prog.cellsOf 3)) = some x6 at f6
    change DataW.trod _ _ _ _ _ _ _ 9 ((l.drop 7).take (Tryz.prog.cellsOf 9)) = some x7 at f7
    change DataW.trod _ _ _ _ _ _ _ 25 ((l.drop 8).take (Tryz.prog.cellsOf 25)) = some x8 at f8
    change DataW.trod _ _ _ _ _ _ _ 3 ((l.drop 9).take (Tryz.prog.cellsOf 3)) = some x9 at f9
    change DataW.trod _ _ _ _ _ _ _ 9 ((l.drop 10).take (Tryz.prog.cellsOf 9)) = some x10 at f10
    change DataW.trod _ _ _ _ _ _ _ 4 ((l.drop 11).take (Tryz.prog.cellsOf 4)) = some x11 at f11
    change DataW.trod _ _ _ _ _ _ _ 22 ((l.drop 12).take (Tryz.prog.cellsOf 22)) = some x12 at f12
    change DataW.trod _ _ _ _ _ _ _ 28 ((l.drop 13).take (Tryz.prog.cellsOf 28)) = some x13 at f13
    change DataW.trod _ _ _ _ _ _ _ 26 ((l.drop 16).take (Tryz.prog.cellsOf 26)) = some x14 at f14
    rw [show Tryz.prog.cellsOf 25 = 1 by kernel_rfl] at f8
    rw [show Tryz.prog.cellsOf 24 = 1 by kernel_rfl] at f5
    rw [show Tryz.prog.cellsOf 26 = 1 by kernel_rfl] at f14
    rw [show Tryz.prog.cellsOf 23 = 1 by kernel_rfl] at f4
    rw [show Tryz.prog.cellsOf 4 = 1 by kernel_rfl] at f11
    rw [show Tryz.prog.cellsOf 3 = 1 by kernel_rfl] at f1 f2 f3 f6 f9
    rw [show Tryz.prog.cellsOf 9 = 1 by kernel_rfl] at f7 f10
    rw [show Tryz.prog.cellsOf 22 = 1 by kernel_rfl] at f0 f12
    rw [Tryz.cellsDrive] at f13
    obtain ⟨zs, n', _, _, hl3, hzl, hz⟩ := DataW.trod_struct Tryz.underlying28 f13
    have g0 := hz 0 _ rfl
    have g1 := hz 1 _ rfl
    have g2 := hz 2 _ rfl
    match zs, hzl with
    | [z0, z1, z2], _ =>
      change DataW.trod _ _ _ _ _ _ _ 23 ((((l.drop 13).take 3).drop 0).take (Tryz.prog.cellsOf 23)) = some z0 at g0
      rw [show Tryz.prog.cellsOf 23 = 1 by kernel_rfl, show (((l.drop 13).take 3).drop 0).take 1 = (l.drop 13).take 1 by rw [List.drop_take, List.drop_drop, List.take_take]; rfl, one 13 (by omega)] at g0
      change DataW.trod _ _ _ _ _ _ _ 26 ((((l.drop 13).take 3).drop 1).take (Tryz.prog.cellsOf 26)) = some z1 at g1
      rw [show Tryz.prog.cellsOf 26 = 1 by kernel_rfl, show (((l.drop 13).take 3).drop 1).take 1 = (l.drop 14).take 1 by rw [List.drop_take, List.drop_drop, List.take_take]; rfl, one 14 (by omega)] at g1
      change DataW.trod _ _ _ _ _ _ _ 3 ((((l.drop 13).take 3).drop 2).take (Tryz.prog.cellsOf 3)) = some z2 at g2
      rw [show Tryz.prog.cellsOf 3 = 1 by kernel_rfl, show (((l.drop 13).take 3).drop 2).take 1 = (l.drop 15).take 1 by rw [List.drop_take, List.drop_drop, List.take_take]; rfl, one 15 (by omega)] at g2
      rw [one 0 (by omega)] at f0
      rw [one 1 (by omega)] at f1
      rw [one 2 (by omega)] at f2
      rw [one 3 (by omega)] at f3
      rw [one 4 (by omega)] at f4
      rw [one 5 (by omega)] at f5
      rw [one 6 (by omega)] at f6
      rw [one 7 (by omega)] at f7
      rw [one 8 (by omega)] at f8
      rw [one 9 (by omega)] at f9
      rw [one 10 (by omega)] at f10
      rw [one 11 (by omega)] at f11
      rw [one 12 (by omega)] at f12
      rw [one 16 (by omega)] at f14
      obtain ⟨i0, e0, _, _⟩ := DataW.trod_int Tryz.underlying22 f0
      injection e0 with e0 _
      obtain ⟨i1, e1, _, _⟩ := DataW.trod_int Tryz.underlying3 f1
      injection e1 with e1 _
      obtain ⟨i2, e2, _, _⟩ := DataW.trod_int Tryz.underlying3 f2
      injection e2 with e2 _
      obtain ⟨i3, e3, _, _⟩ := DataW.trod_int Tryz.underlying3 f3
      injection e3 with e3 _
      obtain ⟨F4, c4, fs, e4, hF⟩ := open_strs f4
      obtain ⟨F5, n5, c5, e5⟩ := open_slice Tryz.underlying24 f5
      obtain ⟨i6, e6, _, _⟩ := DataW.trod_int Tryz.underlying3 f6
      injection e6 with e6 _
      obtain ⟨i7, e7, _, _⟩ := DataW.trod_string Tryz.underlying9 f7
      injection e7 with e7 _
      obtain ⟨F8, n8, c8, e8⟩ := open_slice Tryz.underlying25 f8
      obtain ⟨i9, e9, _, _⟩ := DataW.trod_int Tryz.underlying3 f9
      injection e9 with e9 _
      obtain ⟨i10, e10, _, _⟩ := DataW.trod_string Tryz.underlying9 f10
      injection e10 with e10 _
      obtain ⟨i11, e11, _⟩ := DataW.trod_bool Tryz.underlying4 f11
      injection e11 with e11 _
      obtain ⟨i12, e12, _, _⟩ := DataW.trod_int Tryz.underlying22 f12
      injection e12 with e12 _
      obtain ⟨F16, n16, c16, e16⟩ := open_slice Tryz.underlying26 f14
      obtain ⟨F13, c13, bs, e13, hL⟩ := open_strs g0
      obtain ⟨F14, n14, c14, e14⟩ := open_slice Tryz.underlying26 g1
      obtain ⟨i15, e15, _, _⟩ := DataW.trod_int Tryz.underlying3 g2
      injection e15 with e15 _
      have at' : ∀ k, k < 17 → l[k]? = some (l.getD k undef) := fun k hk => by
        rw [List.getD_eq_getElem?_getD, List.getElem?_eq_getElem (by omega)]; rfl
      refine ⟨l, fs, bs, rfl, ⟨hlen, fun v hv => ?_, F4, c4, F13, c13, by rw [at' 4 (by omega), e4], by rw [at' 13 (by omega), e13], hF, hL⟩, F5, n5, c5, F14, n14, c14, F16, n16, c16, by rw [at' 5 (by omega), e5], by rw [at' 14 (by omega), e14], by rw [at' 16 (by omega), e16]⟩
      obtain ⟨k, hk⟩ := List.getElem?_of_mem hv
      have hk17 : k < 17 := by rw [← hlen]; exact (List.getElem?_eq_some_iff.1 hk).1
      rw [at' k hk17] at hk
      injection hk with hk
      rw [← hk]
      rcases (show k = 0 ∨ k = 1 ∨ k = 2 ∨ k = 3 ∨ k = 4 ∨ k = 5 ∨ k = 6 ∨ k = 7 ∨ k = 8 ∨ k = 9 ∨ k = 10 ∨ k = 11 ∨ k = 12 ∨ k = 13 ∨ k = 14 ∨ k = 15 ∨ k = 16 by omega) with rfl | rfl | rfl | rfl | rfl | rfl | rfl | rfl | rfl | rfl | rfl | rfl | rfl | rfl | rfl | rfl | rfl
      · rw [e0]; rfl
      · rw [e1]; rfl
      · rw [e2]; rfl
      · rw [e3]; rfl
      · rw [e4]; rfl
      · rw [e5]; rfl
      · rw [e6]; rfl
      · rw [e7]; rfl
      · rw [e8]; rfl
      · rw [e9]; rfl
      · rw [e10]; rfl
      · rw [e11]; rfl
      · rw [e12]; rfl
      · rw [e13]; rfl
      · rw [e14]; rfl
      · rw [e15]; rfl
      · rw [e16]; rfl
end
end Go.Proofs.YtmmfcjkabpffeaaGreatDoor
