/-
  Plain: what a machine's rest tells is read back out of it; what is read is no longer than the text. No program in sight.
-/
import Derived.Test.YtmmfcjkabpffeaaGreatDoorRdM
import Derived.Test.YtmmfcjkabpffeaaGreatDoorRestI
import Derived.Test.YtmmfcjkabpffeaaGreatDoorRestJ
import Derived.Test.YtmmfcjkabpffeaaGreatDoorRestF
namespace Go.Proofs.YtmmfcjkabpffeaaGreatDoor
open Go.RowKit

theorem sizeOf_mem : ∀ {ls : List (List UInt8)} {l : List UInt8}, l ∈ ls → l.length ≤ sizeOf ls
  | x :: ls, l, h => by
    rw [sizeOf_cons]
    rcases List.mem_cons.1 h with rfl | h
    · omega
    · have := sizeOf_mem h; omega
theorem openR_row {ls : List (List UInt8)} {n : Int} (h : ∀ l ∈ ls, l.length < 268435456) (hn : n < 0 ∨ (ls.length : Int) = n) : openR (rowB ls) n = some ls := by
  unfold openR
  rw [texts_rowB ls [] h, List.nil_append]
  dsimp only
  rw [if_neg (by omega)]
theorem getL_put {n k : Nat} (hk : k ≤ 8) (hn : n < 256 ^ k) : getL (putL n k) = n := by
  unfold getL
  rw [List.take_of_length_le (by rw [putL_length]; exact hk), getF_putL, Nat.mod_eq_of_lt hn]
theorem flagP_L (b : Bool) : flagP (flagL b) = some b := by cases b <;> rfl
theorem mapM_map_each {α β : Type} {f : β → Option α} {g : α → β} : ∀ {l : List α}, (∀ x ∈ l, f (g x) = some x) → (l.map g).mapM f = some l
  | [], _ => rfl
  | x :: l, h => by
    rw [List.map_cons, List.mapM_cons, h x (by simp), mapM_map_each fun y hy => h y (by simp [hy])]
    rfl
theorem mapM_each {α β : Type} {f : α → Option β} {g : α → β} : ∀ {l : List α}, (∀ x ∈ l, f x = some (g x)) → l.mapM f = some (l.map g)
  | [], _ => rfl
  | x :: l, h => by
    rw [List.map_cons, List.mapM_cons, h x (by simp), mapM_each fun y hy => h y (by simp [hy])]
    rfl
theorem range_map {α : Type} {l : List α} {n : Nat} {g : Nat → α} (hl : l.length = n) (h : ∀ i (hi : i < l.length), g i = l[i]) : (List.range n).map g = l := by
  apply List.ext_getElem (by simp [hl])
  intro i h1 h2
  simp only [List.getElem_map, List.getElem_range]
  exact h i h2
theorem nbR_row {p : Nb} (h1 : inI p.1) (h2 : p.2.length ≤ 4096) : nbR (nbRow p) = some p := by
  have hi := itoa_len h1
  unfold nbR nbRow
  rw [openR_row (n := 2) (fun l hl => by
    rcases List.mem_cons.1 hl with rfl | hl
    · omega
    · obtain rfl : l = p.2 := by simpa using hl
      omega) (.inr rfl)]
  show (intP (Lib.itoa p.1)).map _ = _
  rw [intP_itoa h1]; rfl
theorem nbsR_row {l : List Nb} (h1 : ∀ p ∈ l, inI p.1) (h2 : ∀ p ∈ l, p.2.length ≤ 4096) : nbsR (nbsRow l) = some l := by
  unfold nbsR nbsRow
  rw [openR_row (fun x hx => by
    obtain ⟨p, hp, rfl⟩ := List.mem_map.1 hx
    have := nbRow_le (h1 p hp) (h2 p hp)
    omega) (.inl (by decide))]
  exact mapM_map_each fun p hp => nbR_row (h1 p hp) (h2 p hp)
/-- a piece of a list that is made of pieces of one length -/
theorem flat_cut {α β : Type} {f : α → List β} {n : Nat} (hn : ∀ x, (f x).length = n) : ∀ (l : List α) (i : Nat) (hi : i < l.length), ((l.flatMap f).drop (n * i)).take n = f l[i]
  | [], i, hi => by simp at hi
  | x :: l, 0, hi => by
    rw [Nat.mul_zero, List.drop_zero, List.flatMap_cons]
    exact List.take_left' (hn x)
  | x :: l, i + 1, hi => by
    have h := flat_cut hn l i (by simpa using hi)
    rw [List.flatMap_cons, Nat.mul_succ, Nat.add_comm, ← List.drop_drop, List.drop_left' (hn x), h]
    rfl
theorem regB_length (r : Int) : (regB r).length = 4 := putL_length _ _
theorem reg_back {r : Int} (h : inU32 r) : (getL (regB r) : Int) % 4294967296 = r := by
  unfold inU32 at h
  unfold regB
  rw [getL_put (by decide) (by omega)]
  omega
theorem cpuB_one (p : Pr) : cpuB p = (p.regs ++ [p.pc]).flatMap regB := by simp [cpuB]
theorem regR_back {p : Pr} (hp : PrOk p) (i : Nat) (hi : i < (p.regs ++ [p.pc]).length) : regR (cpuB p) i = (p.regs ++ [p.pc])[i] := by
  unfold regR
  rw [cpuB_one, flat_cut regB_length _ i hi]
  refine reg_back ?_
  have := List.getElem_mem hi
  rcases List.mem_append.1 this with h | h
  · exact hp.reg _ h
  · rw [List.mem_singleton.1 h]; exact hp.pc
theorem regs_back {p : Pr} (hp : PrOk p) : (List.range 16).map (regR (cpuB p)) = p.regs := range_map hp.regs fun i hi => by
  rw [regR_back hp i (by rw [List.length_append]; omega), List.getElem_append_left hi]
theorem pc_back {p : Pr} (hp : PrOk p) : regR (cpuB p) 16 = p.pc := by
  have := hp.regs
  rw [regR_back hp 16 (by rw [List.length_append, hp.regs]; exact (by decide : 16 < 16 + 1)), List.getElem_append_right (by omega)]
  simp
theorem byteOf_back {a : Int} (h : 0 ≤ a ∧ a < 256) : ((byteOf a).toNat : Int) = a := by
  unfold byteOf
  rw [UInt8.toNat_ofNat', Nat.mod_eq_of_lt (by omega)]
  omega
theorem getD_cut (s : List UInt8) (k i m : Nat) (h : i < m) : s.getD (k + i) 0 = ((s.drop k).take m).getD i 0 := (cut_at s h).symm
theorem pg_back {g : Pg} (h : 0 ≤ g.frame ∧ g.frame < 256 ∧ (g.is = false → g.wr = false ∧ g.frame = 0)) : pgR ((pgB g).getD 0 0) ((pgB g).getD 1 0) = some g := by
  obtain ⟨gi, gw, gf⟩ := g
  obtain ⟨g1, g2, g3⟩ := h
  dsimp only at g1 g2 g3
  unfold pgB
  cases gi
  · obtain ⟨rfl, rfl⟩ := g3 rfl
    rfl
  · cases gw
    · show pgR 1 (byteOf gf) = _
      unfold pgR
      rw [if_neg (fun h => absurd h.1 (by decide)), if_pos (.inl rfl), byteOf_back ⟨g1, g2⟩]
      rfl
    · show pgR 2 (byteOf gf) = _
      unfold pgR
      rw [if_neg (fun h => absurd h.1 (by decide)), if_pos (.inr rfl), byteOf_back ⟨g1, g2⟩]
      rfl
theorem space_back {p : Pr} (hp : PrOk p) (hs : PrS p) : spaceR (p.space.flatMap pgB) = some p.space := by
  unfold spaceR
  have key : ∀ i ∈ List.range 16, pgR ((p.space.flatMap pgB).getD (2 * i) 0) ((p.space.flatMap pgB).getD (2 * i + 1) 0) = some (p.space.getD i zeroPg) := fun i hi => by
    have hi : i < p.space.length := by rw [hp.space]; exact List.mem_range.1 hi
    have e0 := getD_cut (p.space.flatMap pgB) (2 * i) 0 2 (by decide)
    have e1 := getD_cut (p.space.flatMap pgB) (2 * i) 1 2 (by decide)
    rw [Nat.add_zero] at e0
    rw [e0, e1, flat_cut pgB_length _ i hi, pg_back (hs.space _ (List.getElem_mem hi))]
    simp [List.getD, hi]
  rw [mapM_each key]
  congr 1
  exact range_map hp.space fun i hi => by simp [List.getD, hi]
theorem i64_back {a : Int} (h : inJ8 a) : i64Of (getL (putL (u64Of a) 8)) = a := by
  rw [getL_put (by decide) (u64Of_lt a)]
  unfold inJ8 at h
  unfold i64Of u64Of
  rw [IntKind.wrap_i64]
  omega
theorem fd_back {f : Fl} (hk : 0 ≤ f.kind ∧ f.kind < 256) (hj : inJ8 f.kind ∧ inJ8 f.n ∧ inJ8 f.pos) (s : List UInt8) (k : Nat) (h : (s.drop k).take 17 = flB f) (e : 17 * (k / 17) = k) : fdR s (k / 17) = f := by
  unfold fdR
  rw [e]
  have e0 := getD_cut s k 0 17 (by decide)
  rw [Nat.add_zero, h] at e0
  have e1 := cut_cut s (k := k) (m := 17) (i := 1) (n := 8) (by decide)
  have e2 := cut_cut s (k := k) (m := 17) (i := 9) (n := 8) (by decide)
  rw [h] at e1 e2
  rw [e0, ← e1, ← e2]
  have l1 : (putL (u64Of f.n) 8).length = 8 := putL_length _ _
  have l2 : (putL (u64Of f.pos) 8).length = 8 := putL_length _ _
  have d1 : ((flB f).drop 1).take 8 = putL (u64Of f.n) 8 := by
    show (putL (u64Of f.n) 8 ++ putL (u64Of f.pos) 8).take 8 = _
    exact List.take_left' l1
  have d2 : ((flB f).drop 9).take 8 = putL (u64Of f.pos) 8 := by
    show ((putL (u64Of f.n) 8 ++ putL (u64Of f.pos) 8).drop 8).take 8 = _
    rw [List.drop_left' l1, List.take_of_length_le (by omega)]
  rw [d1, d2, i64_back hj.2.1, i64_back hj.2.2]
  show (⟨((byteOf f.kind).toNat : Int), f.n, f.pos⟩ : Fl) = f
  rw [byteOf_back hk]
theorem fds_back {p : Pr} (hp : PrOk p) (hs : PrS p) : (List.range 8).map (fdR (p.fds.flatMap flB)) = p.fds := range_map hp.fds fun i hi => by
  have h := fd_back (hs.fds _ (List.getElem_mem hi)) (hp.fd _ (List.getElem_mem hi)) (p.fds.flatMap flB) (17 * i) (flat_cut flB_length _ i hi) (by omega)
  rw [show 17 * i / 17 = i by omega] at h
  exact h
theorem procR_row {p : Pr} (hp : PrOk p) (hs : PrS p) : procR (procRow p) = some p := by
  have hsz := proc_size hp
  have hsm : ∀ l ∈ procL p, l.length < 268435456 := fun l hl => by
    have := sizeOf_mem hl
    omega
  unfold procR procRow
  rw [openR_row (n := 10) hsm (.inr rfl)]
  show procOf (Lib.itoa p.pid) (Lib.itoa p.parent) (Lib.itoa p.state) (cpuB p) (p.space.flatMap pgB) (p.fds.flatMap flB) (flagL p.mask) (putL p.code.toNat 4) (Lib.itoa p.why) (putL p.n.toNat 8) = _
  have e1 : (cpuB p).length = 68 := by unfold cpuB; rw [List.length_append, regs_length, hp.regs]; simp [regB, putL_length]
  have e2 : (p.space.flatMap pgB).length = 32 := by rw [pgs_length, hp.space]
  have e3 : (p.fds.flatMap flB).length = 136 := by rw [fls_length, hp.fds]
  have c1 := hp.code; have n1 := hp.n
  unfold inU32 at c1; unfold inU64 at n1
  unfold procOf
  rw [intP_itoa hp.pid, intP_itoa hp.parent, intP_itoa hp.state, intP_itoa hp.why, space_back hp hs, flagP_L, regs_back hp, pc_back hp, fds_back hp hs, getL_put (by decide) (by omega), getL_put (by decide) (by omega)]
  simp only [Option.bind_some, e1, e2, e3, putL_length, if_true]
  obtain ⟨a1, a2, a3, a4, a5, a6, a7, a8, a9, a10, a11⟩ := p
  dsimp only at *
  show some (⟨a1, a2, a3, a4, a5, a6, a7, a8, ((a9.toNat : Nat) : Int) % 4294967296, a10, ((a11.toNat : Nat) : Int)⟩ : Pr) = _
  rw [show ((a9.toNat : Nat) : Int) % 4294967296 = a9 by omega, show ((a11.toNat : Nat) : Int) = a11 by omega]
theorem prsR_row {l : List Pr} (h : ∀ p ∈ l, PrOk p ∧ PrS p) : prsR (procsRow l) = some l := by
  unfold prsR procsRow
  rw [openR_row (fun x hx => by
    obtain ⟨p, hp, rfl⟩ := List.mem_map.1 hx
    have := procRow_le (h p hp).1
    omega) (.inl (by decide))]
  exact mapM_map_each fun p hp => procR_row (h p hp).1 (h p hp).2
/-- a machine that may be is read back out of its rest -/
theorem rest_back {m : Mc} (hm : McOk m) (h : checkE m = 0) (hp : m.pend.length ≤ 4096) : restR (restB m) = some { m with frames := [], blocks := [] } := by
  have hr := rest_ok h hp
  obtain ⟨_, h2, h3, _, _, _⟩ := checkE_zero h
  have hpr : ∀ p ∈ m.procs, PrOk p ∧ PrS p := fun p hq => ⟨hm.procs p hq, (procs_zero (frames_zero h2).1 h3).2 p hq⟩
  have i1 : (Lib.itoa m.quantum).length ≤ 20 := itoa_len hm.quantum
  have i2 : (Lib.itoa m.cur).length ≤ 20 := itoa_len hm.cur
  have i3 : (Lib.itoa m.left).length ≤ 20 := itoa_len hm.left
  have i4 : (Lib.itoa m.next).length ≤ 20 := itoa_len hm.next
  have i5 : (Lib.itoa m.newPipe).length ≤ 20 := itoa_len hm.newPipe
  have i6 : (Lib.itoa m.dleft).length ≤ 20 := itoa_len hm.dleft
  have n1 := nbsRow_le hr.pend.1 hm.pend hr.pend.2
  have n2 := nbsRow_le hr.dirty.1 hm.dirty hr.dirty.2
  have n3 := nbsRow_le hr.pipes.1 hm.pipes hr.pipes.2
  have n4 := procsRow_le hr.procs hm.procs
  have a1 := hr.init
  have a2 := hr.inp
  have hsm : ∀ l ∈ restL m, l.length < 268435456 := fun l hl => by
    unfold restL at hl
    simp only [List.mem_cons, List.not_mem_nil, or_false] at hl
    rcases hl with rfl | rfl | rfl | rfl | rfl | rfl | rfl | rfl | rfl | rfl | rfl | rfl | rfl | rfl | rfl | rfl <;> first | omega | (rw [putL_length]; decide) | (rw [flagL_length]; decide) | decide
  unfold restR restB
  rw [openR_row (n := 16) hsm (.inr rfl)]
  show restOfR mark2 (putL m.clock.toNat 8) (Lib.itoa m.quantum) (Lib.itoa m.cur) (Lib.itoa m.left) (Lib.itoa m.next) m.init (Lib.itoa m.newPipe) m.inp (flagL m.fin) (putL m.told.toNat 8) (Lib.itoa m.dleft) (nbsRow m.pend) (nbsRow m.dirty) (nbsRow m.pipes) (procsRow m.procs) = _
  have c1 := hm.clock; have t1 := hm.told
  unfold inU64 at c1 t1
  unfold restOfR
  rw [intP_itoa hm.quantum, intP_itoa hm.cur, intP_itoa hm.left, intP_itoa hm.next, intP_itoa hm.newPipe, flagP_L, intP_itoa hm.dleft, nbsR_row hm.pend hr.pend.2, nbsR_row hm.dirty hr.dirty.2, nbsR_row hm.pipes hr.pipes.2, prsR_row hpr,
    getL_put (by decide) (by omega), getL_put (by decide) (by omega)]
  simp only [Option.bind_some, putL_length, if_true]
  obtain ⟨b1, b2, b3, b4, b5, b6, b7, b8, b9, b10, b11, b12, b13, b14, b15, b16, b17⟩ := m
  dsimp only at *
  show some (⟨((b1.toNat : Nat) : Int), b2, b3, b4, [], b6, b7, b8, b9, b10, b11, b12, ((b13.toNat : Nat) : Int), [], b15, b16, b17⟩ : Mc) = _
  rw [show ((b1.toNat : Nat) : Int) = b1 by omega, show ((b13.toNat : Nat) : Int) = b13 by omega]
/-- what is read is no longer than the text -/
theorem restR_len {b : List UInt8} {m : Mc} (h : restR b = some m) : m.frames = [] ∧ m.blocks = [] ∧ m.procs.length ≤ b.length ∧ m.pipes.length ≤ b.length ∧ m.pend.length ≤ b.length ∧ m.dirty.length ≤ b.length := by
  unfold restR at h
  split at h
  · rename_i t0 t1 t2 t3 t4 t5 t6 t7 t8 t9 t10 t11 t12 t13 t14 t15 ho
    have hm := texts_mem (openR_ok ho).1
    have b12 := hm t12 (by simp)
    have b13 := hm t13 (by simp)
    have b14 := hm t14 (by simp)
    have b15 := hm t15 (by simp)
    unfold restOfR at h
    split at h
    · split at h
      · simp only [Option.bind_eq_some_iff] at h
        obtain ⟨qu, _, cu, _, le, _, nx, _, np, _, fin, _, h⟩ := h
        split at h
        · simp only [Option.bind_eq_some_iff] at h
          obtain ⟨dl, _, pd, h12, dy, h13, pi, h14, ps, h15, h⟩ := h
          injection h with h
          subst h
          have k12 := (nbsR_ok h12).2
          have k13 := (nbsR_ok h13).2
          have k14 := (nbsR_ok h14).2
          have k15 : ps.length ≤ t15.length := by
            unfold prsR at h15
            cases hq : openR t15 (-1) with
            | none => rw [hq] at h15; cases h15
            | some l =>
              rw [hq] at h15
              rw [mapM_len (f := procR) (l := l) h15]
              exact texts_count (openR_ok hq).1
          refine ⟨rfl, rfl, ?_, ?_, ?_, ?_⟩ <;> dsimp only <;> omega
        · cases h
      · cases h
    · cases h
  · cases h
end Go.Proofs.YtmmfcjkabpffeaaGreatDoor
/-
  Walk: image.Machine. (Printed by gen_imm.py.)
-/
namespace Go.Proofs.YtmmfcjkabpffeaaGreatDoor
open Go.RowKit

/-- the machine of an image, or the error -/
def machR (fs bs : List (List UInt8)) (r : List UInt8) : Except Int Mc := match restR r with
  | none => .error 3
  | some m => if checkE { m with frames := fs, blocks := bs } = 0 then (if restB { m with frames := fs, blocks := bs } = r then .ok { m with frames := fs, blocks := bs } else .error 3) else .error (checkE { m with frames := fs, blocks := bs })
/-- what Machine gives -/
def MachPost (w : World) (x : Except Int Mc) (e : Ending) (w' : World) : Prop :=
  (match x with
    | .error c => e = .returned (.tuple #[.agg zeroML.toArray, .int .i64 c])
    | .ok m => ∃ a : MA, e = .returned (.tuple #[.agg (mcL a m).toArray, .int .i64 0]) ∧ MAt w' w'.heap.size a m ∧ McOk m) ∧ Below w.heap.size w w'
theorem Tryz.infoMc : (Tryz.prog.info? 30).map (fun i => (i.zero, i.size)) = some (some (.agg zeroML.toArray), 17) := by kernel_rfl
theorem results_cell_tmp {P : Program} {fn : Func} {p q : Tmp} {ty : TypeId} (hr : fn.results = #[.cell p ty, .tmp q]) (tmps : Array Value) (w : World) (g : Nat) (t : TypeId) (cs : Array Value) (v : Value) (fr : Nat × Nat) (d : TypeDesc)
    (hp : tmps.getD p undef = .pointer (some ⟨g, 0, none⟩)) (hq : tmps.getD q undef = v) (hg : w.heap[g]? = some (.cells cs t fr))
    (hu : P.underlying ty = some d) (hd : (match d with | .struct _ | .array _ _ => true | _ => false) = true) (hi : (P.info? ty).map (·.size) = some cs.size) :
    (results fn tmps).run P w = .ok (.tuple #[.agg cs, v]) w := by
  have hp' : tmps[p]?.getD undef = .pointer (some ⟨g, 0, none⟩) := by simpa using hp
  have hq' : tmps[q]?.getD undef = v := by simpa using hq
  simp [results, hr, hp', hq', asAddr, run_loadVar_row w g t ty cs fr d hg hu hd hi]
set_option maxRecDepth 100000 in
set_option maxHeartbeats 4000000 in
theorem machine_any (w : World) (A B : Option Addr) (c d : Nat) (fs bs : List (List UInt8)) (r : List UInt8) (hA : Strs w w.heap.size A fs) (hB : Strs w w.heap.size B bs) (hfl : fs.length ≤ 274877906944) (hbl : bs.length ≤ 274877906944) (hr : r.length ≤ 4294967296) (hpd : ∀ m, restR r = some m → m.pend.length ≤ 4096) (hT : ITabs w) :
    Calls Tryz.prog 22 #[.agg #[.slice A fs.length c, .slice B bs.length d, S r]] w (MachPost w (machR fs bs r)) := by
  have hs0 := (Whole.made w 36 #[.slice A fs.length c, .slice B bs.length d, S r]).block (.cells #[.int .u64 0, .int .i64 0, .int .i64 0, .int .i64 0, .slice none 0 0, .slice none 0 0, .int .i64 0, S [], .slice none 0 0, .int .i64 0, S [], .bool false, .int .u64 0, .slice none 0 0, .slice none 0 0, .int .i64 0, .slice none 0 0] 30)
  have hs1 := Whole.made (w.alloc (.cells #[.slice A fs.length c, .slice B bs.length d, S r] 36)) 30 #[.int .u64 0, .int .i64 0, .int .i64 0, .int .i64 0, .slice none 0 0, .slice none 0 0, .int .i64 0, S [], .slice none 0 0, .int .i64 0, S [], .bool false, .int .u64 0, .slice none 0 0, .slice none 0 0, .int .i64 0, .slice none 0 0]
  rw [show (w.alloc (.cells #[.slice A fs.length c, .slice B bs.length d, S r] 36)).heap.size = w.heap.size + 1 by simp] at hs1
  have hb : Below w.heap.size w ((w.alloc (.cells #[.slice A fs.length c, .slice B bs.length d, S r] 36)).alloc (.cells #[.int .u64 0, .int .i64 0, .int .i64 0, .int .i64 0, .slice none 0 0, .slice none 0 0, .int .i64 0, S [], .slice none 0 0, .int .i64 0, S [], .bool false, .int .u64 0, .slice none 0 0, .slice none 0 0, .int .i64 0, .slice none 0 0] 30)) := ((Below.refl _ _).alloc (by first | exact Nat.le_refl _ | simp | (simp; omega)) _).alloc (by first | exact Nat.le_refl _ | simp | (simp; omega)) _
  go_enter Tryz.func22, Tryz.ntmps22
  go_upto_region 1 with (fail)
  change Code.wp _ _ _ _ ((w.alloc (.cells #[.slice A fs.length c, .slice B bs.length d, S r] 36)).alloc (.cells #[.int .u64 0, .int .i64 0, .int .i64 0, .int .i64 0, .slice none 0 0, .slice none 0 0, .int .i64 0, S [], .slice none 0 0, .int .i64 0, S [], .bool false, .int .u64 0, .slice none 0 0, .slice none 0 0, .int .i64 0, .slice none 0 0] 30))
  generalize ((w.alloc (.cells #[.slice A fs.length c, .slice B bs.length d, S r] 36)).alloc (.cells #[.int .u64 0, .int .i64 0, .int .i64 0, .int .i64 0, .slice none 0 0, .slice none 0 0, .int .i64 0, S [], .slice none 0 0, .int .i64 0, S [], .bool false, .int .u64 0, .slice none 0 0, .slice none 0 0, .int .i64 0, .slice none 0 0] 30)) = w1 at *
  generalize hgx : w.heap.size = gx at *
  have HGX := Lib.hid hgx
  have HS0 := Lib.hid hs0
  have HS1 := Lib.hid hs1
  have HW := Lib.hid hb
  have hgl : gx + 1 < w1.heap.size := hs1.lt
  clear hgx hb hs0 hs1
  have HZ1 : Hid (Whole w1 (gx + 1) 30 zeroML.toArray) := Lib.hid HS1.out
  clear HS1
  have HA : Hid (Strs w1 gx A fs) := Lib.hid (Lies.below hA HW.out)
  have HB : Hid (Strs w1 gx B bs) := Lib.hid (Lies.below hB HW.out)
  have HTW : Hid (∀ W, Below gx w W → ITabs W) := Lib.hid fun W hW => hT.below (B := gx) (by rw [HGX.out]; exact Nat.le_refl _) hW
  have CR := Lib.hid (readRest_any w1 r hr (HTW.out w1 HW.out))
  have c2 : w1.cell? ⟨gx, 2, none⟩ = some (S r) := HS0.out.cell 2
  have HPD := Lib.hid hpd
  have HRL := Lib.hid hr
  clear hA hB hT hpd hr
  go_wp2_with fail
  refine CR.out.mono ?_
  rintro e w2 ⟨he, hb2⟩
  have HW2 := Lib.hid (HW.out.trans (hb2.mono (by omega)))
  have HI2 := Lib.hid (HS0.out.below hb2 (by omega))
  have HZ2 := Lib.hid (HZ1.out.below hb2 (by omega))
  have hz2 := hb2.size
  have HA2 := Lib.hid (Lies.below HA.out (hb2.mono (by omega)))
  have HB2 := Lib.hid (Lies.below HB.out (hb2.mono (by omega)))
  have HIW : Hid (∀ W, Below w2.heap.size w2 W → Whole W gx 36 #[.slice A fs.length c, .slice B bs.length d, S r]) := Lib.hid fun W hW => HI2.out.below hW (by omega)
  have HZW : Hid (∀ W, Below w2.heap.size w2 W → Whole W (gx + 1) 30 zeroML.toArray) := Lib.hid fun W hW => HZ2.out.below hW (by omega)
  clear hb2 CR c2 HS0 HZ1 HA HB HI2 HZ2
  cases hq : restR r with
  | none =>
    rw [hq] at he
    obtain rfl : e = _ := he
    have HQ : Hid (machR fs bs r = .error 3) := Lib.hid (by unfold machR; rw [hq])
    clear hq
    go_upto_region 2 with (refine wpList_fresh rfl rfl 30 4 (.tmp 11) rfl rfl rfl rfl zeroML rfl rfl _ Tryz.infoMc rfl (mcL_one _ _) ?_)
    change Code.wp _ _ _ _ (w2.alloc (.cells zeroML.toArray 30))
    have HV3 := Lib.hid ((Below.refl w2.heap.size w2).alloc (Nat.le_refl _) (.cells zeroML.toArray 30))
    have HZ3 := Lib.hid (HZW.out _ HV3.out)
    have HVV3 := Lib.hid (HW2.out.trans (HV3.out.mono (by omega)))
    generalize w2.alloc (.cells zeroML.toArray 30) = w3 at *
    go_wp2_with (refine wpList_store_all rfl 30 (.tmp 2) (.tmp 15) rfl rfl (gx + 1) rfl zeroML rfl Tryz.sizeMc zeroML 30 HZ3.out rfl (mcL_one _ _) ?_; intro wz hw hk)
    refine bodyPost_ret (v := .tuple #[.agg zeroML.toArray, .int .i64 3]) (results_cell_tmp rfl _ _ (gx + 1) 30 _ _ (0, 0) _ rfl rfl hw.out Tryz.underlying30 rfl Tryz.sizeMc) rfl ?_
    unfold MachPost
    rw [HQ.out]
    exact ⟨rfl, by rw [HGX.out]; exact HVV3.out.grown hk.out (by have := HVV3.out.size; have := HGX.out; omega) (fun q e => by injection e with e; omega)⟩
  | some m0 =>
    rw [hq] at he
    obtain ⟨a0, rfl, hat, hok, _, _, hge0⟩ := he
    have HGE := Lib.hid hge0
    have HRS := Lib.hid hq
    have HAT := Lib.hid hat
    have HOK := Lib.hid hok
    obtain ⟨hf0, hb0, l1, l2, l3, l4⟩ := restR_len hq
    have hrl := HRL.out
    have hpd := HPD.out m0 hq
    have HM1 : Hid (McOk ({ m0 with frames := fs, blocks := bs } : Mc)) := Lib.hid (McOk'.small (m := ({ m0 with frames := fs, blocks := bs } : Mc)) ⟨hok.clock, hok.quantum, hok.cur, hok.left, hok.next, hok.newPipe, hok.told, hok.dleft, hok.procs, hok.pipes, hok.pend, hok.dirty, by
      have h := hok.sizes
      exact ⟨Nat.le_trans hfl (by decide), h.2.1, h.2.2.1, Nat.le_trans hbl (by decide), h.2.2.2.2.1, h.2.2.2.2.2⟩⟩ hfl (by show m0.procs.length ≤ _; omega) hbl (by show m0.pend.length ≤ _; omega) (by show m0.dirty.length ≤ _; omega))
    have HPN : Hid ((({ m0 with frames := fs, blocks := bs } : Mc)).pend.length ≤ 4096) := Lib.hid hpd
    clear hq hat hok hge0 l1 l2 l3 l4 hrl hpd hf0 hb0
    go_upto_region 2 with (refine wpList_fresh rfl rfl 30 4 (.tmp 11) rfl rfl rfl rfl (mcL a0 m0) rfl rfl _ Tryz.infoMc rfl (mcL_one _ _) ?_)
    change Code.wp _ _ _ _ (w2.alloc (.cells (mcL a0 m0).toArray 30))
    have HV3 := Lib.hid ((Below.refl w2.heap.size w2).alloc (Nat.le_refl _) (.cells (mcL a0 m0).toArray 30))
    have HM3 := Lib.hid (Whole.made w2 30 (mcL a0 m0).toArray)
    generalize w2.alloc (.cells (mcL a0 m0).toArray 30) = w3 at *
    have hz3 : w2.heap.size < w3.heap.size := HM3.out.lt
    have c0 : w3.cell? ⟨gx, 0, none⟩ = some (.slice A fs.length c) := (HIW.out w3 HV3.out).cell 0
    have CF := Lib.hid (cloneS_any w3 A c fs (Lies.wide (Lies.below HA2.out (HV3.out.mono (by omega))) (by omega)) (by omega))
    go_wp2_with fail
    refine CF.out.mono ?_
    rintro e w4 ⟨⟨v, rfl, ho⟩, hb4⟩
    obtain ⟨A1, c1, rfl, hl1, hg1⟩ := own_shape ho (by decide)
    have hcp1 := own_cap ho
    have HV4 := Lib.hid (HV3.out.trans (hb4.mono (by omega)))
    have HM4 := Lib.hid (HM3.out.below hb4 (by omega))
    have HL4 : Hid (Strs w4 w4.heap.size A1 fs) := Lib.hid hl1
    have HG4 := Lib.hid hg1
    have HP4 := Lib.hid hcp1
    have hz4 : w3.heap.size ≤ w4.heap.size := hb4.size
    have c4 : w4.cell? ⟨w2.heap.size, 4, none⟩ = some (.slice a0.F m0.frames.length a0.cF) := HM4.out.cell 4
    have y4 : w4.frozen? ⟨w2.heap.size, 4, none⟩ = false := HM4.out.free 4
    clear hl1 hg1 ho hb4 CF c0 hcp1
    have HM5 : Hid (Whole (w4.setCell ⟨w2.heap.size, 4, none⟩ (.slice A1 fs.length c1)) w2.heap.size 30 (mcL ({ a0 with F := A1, cF := c1, L := a0.L, cL := a0.cL } : MA) { m0 with frames := fs }).toArray) := Lib.hid (HM4.out.set 4 (.slice A1 fs.length c1))
    have HV5 := Lib.hid (HV4.out.setCell (p := ⟨w2.heap.size, 4, none⟩) (Nat.le_refl _) (.slice A1 fs.length c1))
    have HL5 : Hid (Strs (w4.setCell ⟨w2.heap.size, 4, none⟩ (.slice A1 fs.length c1)) (w4.setCell ⟨w2.heap.size, 4, none⟩ (.slice A1 fs.length c1)).heap.size A1 fs) := Lib.hid (lies_ne HL4.out fun ad e => by have := HG4.out ad e; show ad.block ≠ w2.heap.size; omega)
    have hz5 : w4.heap.size ≤ (w4.setCell ⟨w2.heap.size, 4, none⟩ (.slice A1 fs.length c1)).heap.size := by simp [World.setCell]
    go_upto_region 5 with (fail)
    clear c4 y4 HM4 HV4 HL4 HM3 HV3
    generalize w4.setCell ⟨w2.heap.size, 4, none⟩ (.slice A1 fs.length c1) = w5 at *
    have c0 : w5.cell? ⟨gx, 1, none⟩ = some (.slice B bs.length d) := (HIW.out w5 HV5.out).cell 1
    have CF := Lib.hid (cloneS_any w5 B d bs (Lies.wide (Lies.below HB2.out (HV5.out.mono (by omega))) (by omega)) (by omega))
    go_wp2_with fail
    refine CF.out.mono ?_
    rintro e w6 ⟨⟨v, rfl, ho⟩, hb6⟩
    obtain ⟨A2, c3, rfl, hl2, hg2⟩ := own_shape ho (by decide)
    have hcp2 := own_cap ho
    have HV6 := Lib.hid (HV5.out.trans (hb6.mono (by omega)))
    have HM6 := Lib.hid (HM5.out.below hb6 (by omega))
    have HK6 : Hid (Strs w6 w6.heap.size A2 bs) := Lib.hid hl2
    have HL6 : Hid (Strs w6 w6.heap.size A1 fs) := Lib.hid (Lies.wide (Lies.below HL5.out hb6) hb6.size)
    have HG6 := Lib.hid hg2
    have HP6 := Lib.hid hcp2
    have hz6 : w5.heap.size ≤ w6.heap.size := hb6.size
    have c4 : w6.cell? ⟨w2.heap.size, 13, none⟩ = some (.slice a0.L m0.blocks.length a0.cL) := HM6.out.cell 13
    have y4 : w6.frozen? ⟨w2.heap.size, 13, none⟩ = false := HM6.out.free 13
    clear hl2 hg2 ho hb6 CF c0 HM5 HV5 HL5 hcp2
    have HMX7 : Hid (Whole (w6.setCell ⟨w2.heap.size, 13, none⟩ (.slice A2 bs.length c3)) w2.heap.size 30 (mcL ({ a0 with F := A1, cF := c1, L := A2, cL := c3 } : MA) ({ m0 with frames := fs, blocks := bs } : Mc)).toArray) := Lib.hid (HM6.out.set 13 (.slice A2 bs.length c3))
    have HVX7 := Lib.hid (HV6.out.setCell (p := ⟨w2.heap.size, 13, none⟩) (Nat.le_refl _) (.slice A2 bs.length c3))
    have HLX7 : Hid (Strs (w6.setCell ⟨w2.heap.size, 13, none⟩ (.slice A2 bs.length c3)) (w6.setCell ⟨w2.heap.size, 13, none⟩ (.slice A2 bs.length c3)).heap.size A1 fs) := Lib.hid (lies_ne HL6.out fun ad e => by have := HG4.out ad e; show ad.block ≠ w2.heap.size; omega)
    have HKX7 : Hid (Strs (w6.setCell ⟨w2.heap.size, 13, none⟩ (.slice A2 bs.length c3)) (w6.setCell ⟨w2.heap.size, 13, none⟩ (.slice A2 bs.length c3)).heap.size A2 bs) := Lib.hid (lies_ne HK6.out fun ad e => by have := HG6.out ad e; show ad.block ≠ w2.heap.size; omega)
    have hz7 : w6.heap.size ≤ (w6.setCell ⟨w2.heap.size, 13, none⟩ (.slice A2 bs.length c3)).heap.size := by simp [World.setCell]
    go_upto_region 6 with (fail)
    clear c4 y4 HM6 HV6 HL6 HK6
    generalize w6.setCell ⟨w2.heap.size, 13, none⟩ (.slice A2 bs.length c3) = wb at *
    have HMAT : Hid (∀ W, Below wb.heap.size wb W → MAt W W.heap.size ({ a0 with F := A1, cF := c1, L := A2, cL := c3 } : MA) ({ m0 with frames := fs, blocks := bs } : Mc)) := Lib.hid fun W hW => by
      have hs := hW.size
      have hV : Below w2.heap.size w2 W := HVX7.out.trans (hW.mono (by omega))
      have h0 := (HAT.out.below hV).wide (B' := W.heap.size) (by omega)
      have k1 := h0.caps
      exact ⟨Lies.wide (Lies.below HLX7.out hW) hs, h0.P, h0.Q, Lies.wide (Lies.below HKX7.out hW) hs, h0.N, h0.D, HP4.out, k1.2.1, k1.2.2.1, HP6.out, k1.2.2.2.2⟩
    have HMX : Hid (∃ a : MA, mcL ({ a0 with F := A1, cF := c1, L := A2, cL := c3 } : MA) ({ m0 with frames := fs, blocks := bs } : Mc) = mcL a ({ m0 with frames := fs, blocks := bs } : Mc) ∧ ∀ (W' : World) (q : Nat) {W : World}, q < w1.heap.size → Below wb.heap.size wb W → W.grownBy W' (some q) → MAt W' W'.heap.size a ({ m0 with frames := fs, blocks := bs } : Mc)) := Lib.hid ⟨_, rfl, fun W' q W hq hW hk => by
      have key : ∀ (X : Option Addr) (xs : List Value), Lies W W.heap.size X xs → (∀ ad, X = some ad → w1.heap.size ≤ ad.block) → Lies W' W'.heap.size X xs := fun X xs hl hge k v hv => by
        obtain ⟨ad, e, hb, hc⟩ := hl k v hv
        refine ⟨ad, e, Nat.lt_of_lt_of_le hb hk.size, ?_⟩
        rw [← hc]
        unfold World.cell?
        rw [add_block, hk.block ad.block hb (by have := hge ad e; intro e2; injection e2 with e2; omega)]
      have h := HMAT.out W hW
      have hg := HGE.out
      exact ⟨key _ _ h.F (fun ad e => by have := HG4.out ad e; omega), key _ _ h.P (fun ad e => hg ad (.inl e)), key _ _ h.Q (fun ad e => hg ad (.inr (.inl e))), key _ _ h.L (fun ad e => by have := HG6.out ad e; omega), key _ _ h.N (fun ad e => hg ad (.inr (.inr (.inl e)))), key _ _ h.D (fun ad e => hg ad (.inr (.inr (.inr e)))), h.caps⟩⟩
    have CC := Lib.hid (check_any wb ({ a0 with F := A1, cF := c1, L := A2, cL := c3 } : MA) ({ m0 with frames := fs, blocks := bs } : Mc) HM1.out (HMAT.out wb (Below.refl _ _)))
    have CRW0 : Hid (checkE ({ m0 with frames := fs, blocks := bs } : Mc) = 0 → ∀ W, Below wb.heap.size wb W → Calls Tryz.prog 31 #[.agg (mcL ({ a0 with F := A1, cF := c1, L := A2, cL := c3 } : MA) ({ m0 with frames := fs, blocks := bs } : Mc)).toArray] W fun e w' => e = .returned (S (restB ({ m0 with frames := fs, blocks := bs } : Mc))) ∧ Below W.heap.size W w') := Lib.hid fun h0 W hW => restOf_any W ({ a0 with F := A1, cF := c1, L := A2, cL := c3 } : MA) ({ m0 with frames := fs, blocks := bs } : Mc) HM1.out (rest_ok h0 HPN.out) (HMAT.out W hW) (HTW.out W (HW2.out.trans ((HVX7.out.trans (hW.mono (by omega))).mono (by omega)))).1
    have HLN : Hid ((mcL ({ a0 with F := A1, cF := c1, L := A2, cL := c3 } : MA) ({ m0 with frames := fs, blocks := bs } : Mc)).length = 17) := Lib.hid rfl
    have HONE := Lib.hid (mcL_one ({ a0 with F := A1, cF := c1, L := A2, cL := c3 } : MA) ({ m0 with frames := fs, blocks := bs } : Mc))
    have HBW : Hid (∀ W, Below wb.heap.size wb W → Whole W w2.heap.size 30 (mcL ({ a0 with F := A1, cF := c1, L := A2, cL := c3 } : MA) ({ m0 with frames := fs, blocks := bs } : Mc)).toArray) := Lib.hid fun W hW => HMX7.out.below hW (by omega)
    clear HMX7 HLX7 HKX7 HMAT HAT
    generalize mcL ({ a0 with F := A1, cF := c1, L := A2, cL := c3 } : MA) ({ m0 with frames := fs, blocks := bs } : Mc) = cs at *
    have MI : Hid ((Tryz.prog.info? 30).map (·.size) = some cs.length) := Lib.hid (by rw [HLN.out]; exact Tryz.sizeMc)
    have LD := Lib.hid (HBW.out wb (Below.refl _ _)).reads
    obtain ⟨ce, HCE⟩ : ∃ z, Hid (checkE ({ m0 with frames := fs, blocks := bs } : Mc) = z) := ⟨_, Lib.hid rfl⟩
    obtain ⟨rr, HRR⟩ : ∃ z, Hid (restB ({ m0 with frames := fs, blocks := bs } : Mc) = z) := ⟨_, Lib.hid rfl⟩
    rw [HCE.out] at CC
    rw [HRR.out] at CRW0
    go_wp2_with (refine wpList_load_at rfl 30 (.tmp 4) rfl ⟨w2.heap.size, 0, none⟩ rfl cs _ LD.out Tryz.underlying30 rfl MI.out ?_)
    refine CC.out.mono ?_
    rintro e w7 ⟨rfl, hb7⟩
    have HB67 := Lib.hid hb7
    have HV7 := Lib.hid (HVX7.out.trans (hb7.mono (by omega)))
    clear hb7 CC LD
    by_cases hce : ce = 0
    · subst hce
      have CRW : Hid (∀ W, Below w7.heap.size w7 W → Calls Tryz.prog 31 #[.agg cs.toArray] W fun e w' => e = .returned (S rr) ∧ Below W.heap.size W w') := Lib.hid fun W hW => CRW0.out HCE.out W (HB67.out.trans (hW.mono HB67.out.size))
      go_upto_region 9 with (fail)
      refine' wp_region_sure (by kernel_rfl) (fun W => Below w7.heap.size w7 W) 5 [_, _, _, _, .bool (rr != r)] [some 31, some 32, some 33, some 34, some 35] (by kernel_rfl) (by kernel_rfl) (by kernel_rfl) (by kernel_rfl) rfl (Below.refl _ _).drew ?hs1
      case hs1 =>
        refine sure_cons ?_ ?_
        · intro L ac W K hed hJ hS hK
          have hA4 : ac.eval (.tmp 4) = .pointer (some ⟨w2.heap.size, 0, none⟩) := hJ.eval_old 4 (by kernel_rfl)
          clear hed hJ
          refine opStep_of rfl ?_
          refine oper_load_at 30 (.tmp 4) rfl ⟨w2.heap.size, 0, none⟩ hA4 cs _ (HBW.out W (HB67.out.trans (hS.mono HB67.out.size))).reads Tryz.underlying30 rfl MI.out ?_
          exact hK _ hS
        refine sure_cons ?_ ?_
        · intro L ac W K hed hJ hS hK
          have hn := needs_spec (l := [0]) (by kernel_rfl) hed
          have hA31 := hJ.eval 0 (d := 31) (hn 0 (by simp)) rfl rfl rfl
          clear hed hJ hn
          refine opStep_of rfl ?_
          unfold Oper.wp execOp
          have hN31 := evalN hA31
          go_simp
          refine (CRW.out W hS).mono ?_
          rintro e W' ⟨rfl, hb⟩
          have hS2 := hS.trans (hb.mono hS.size)
          dsimp only
          exact hK W' hS2
        refine sure_cons ?_ ?_
        · intro L ac W K hed hJ hS hK
          have hA1 : ac.eval (.tmp 1) = .pointer (some ⟨gx, 0, none⟩) := hJ.eval_old 1 (by kernel_rfl)
          clear hed hJ
          refine opStep_of rfl ?_
          unfold Oper.wp execOp
          have hN1 := evalN hA1
          go_simp
          exact hK _ hS
        refine sure_cons ?_ ?_
        · intro L ac W K hed hJ hS hK
          have hn := needs_spec (l := [2]) (by kernel_rfl) hed
          have hA33 := hJ.eval 2 (d := 33) (hn 2 (by simp)) rfl rfl rfl
          clear hed hJ hn
          refine opStep_of rfl ?_
          have cc : W.cell? ⟨gx, 2, none⟩ = some (S r) := (HIW.out W (HV7.out.trans (hS.mono HV7.out.size))).cell 2
          unfold Oper.wp execOp
          have hN33 := evalN hA33
          go_simp
          exact hK _ hS
        refine sure_cons ?_ ?_
        · intro L ac W K hed hJ hS hK
          have hn := needs_spec (l := [1, 3]) (by kernel_rfl) hed
          have hA32 := hJ.eval 1 (d := 32) (hn 1 (by simp)) rfl rfl rfl
          have hA34 := hJ.eval 3 (d := 34) (hn 3 (by simp)) rfl rfl rfl
          clear hed hJ hn
          refine opStep_of rfl ?_
          unfold Oper.wp execOp
          have hN32 := evalN hA32
          have hN34 := evalN hA34
          go_simp
          exact hK _ hS
        refine sure_nil ?_
        intro W hS
        simp only [putAll, Act.put, List.setIfInBounds_toArray, List.set_cons_zero, List.set_cons_succ]
        have HS := Lib.hid hS
        clear hS
        by_cases hrr : rr = r
        · have hbe : (rr != r) = false := by rw [hrr]; simp
          rw [hbe]
          have HQ : Hid (machR fs bs r = .ok ({ m0 with frames := fs, blocks := bs } : Mc)) := Lib.hid (by unfold machR; rw [HRS.out]; dsimp only; rw [if_pos HCE.out, if_pos (HRR.out.trans hrr)])
          have HV8 := Lib.hid (HV7.out.trans (HS.out.mono HV7.out.size))
          have HB8 := Lib.hid (HBW.out W (HB67.out.trans (HS.out.mono HB67.out.size)))
          have HB68 := Lib.hid (HB67.out.trans (HS.out.mono HB67.out.size))
          have HZ8 := Lib.hid (HZW.out W HV8.out)
          have HVV8 := Lib.hid (HW2.out.trans (HV8.out.mono (by omega)))
          have LD8 := Lib.hid HB8.out.reads
          clear hrr hbe
          go_wp2_with (first
            | (refine wpList_load_at rfl 30 (.tmp 4) rfl ⟨w2.heap.size, 0, none⟩ rfl cs _ LD8.out Tryz.underlying30 rfl MI.out ?_)
            | (refine wpList_store_all rfl 30 (.tmp 2) (.tmp 37) rfl rfl (gx + 1) rfl cs rfl MI.out zeroML 30 HZ8.out (by rw [HLN.out]; rfl) HONE.out ?_; intro wz hw hk))
          refine bodyPost_ret (v := .tuple #[.agg cs.toArray, .int .i64 0]) (results_cell_tmp rfl _ _ (gx + 1) 30 _ _ (0, 0) _ rfl rfl hw.out Tryz.underlying30 rfl (by rw [List.size_toArray]; exact MI.out)) rfl ?_
          unfold MachPost
          rw [HQ.out]
          obtain ⟨a, ha, hat⟩ := HMX.out
          exact ⟨⟨a, by rw [ha], hat wz (gx + 1) hgl HB68.out hk.out, HM1.out⟩, by rw [HGX.out]; exact HVV8.out.grown hk.out (by have := HVV8.out.size; have := HGX.out; omega) (fun q e => by injection e with e; omega)⟩
        · have hbe : (rr != r) = true := by simpa using hrr
          rw [hbe]
          have HQ : Hid (machR fs bs r = .error 3) := Lib.hid (by unfold machR; rw [HRS.out]; dsimp only; rw [if_pos HCE.out, if_neg (fun h => hrr (HRR.out.symm.trans h))])
          have HV8 := Lib.hid (HV7.out.trans (HS.out.mono HV7.out.size))
          have HZ8 := Lib.hid (HZW.out W HV8.out)
          have HVV8 := Lib.hid (HW2.out.trans (HV8.out.mono (by omega)))
          clear hrr hbe
          go_wp2_with (refine wpList_store_all rfl 30 (.tmp 2) (.tmp 36) rfl rfl (gx + 1) rfl zeroML rfl Tryz.sizeMc zeroML 30 HZ8.out rfl (mcL_one _ _) ?_; intro wz hw hk)
          refine bodyPost_ret (v := .tuple #[.agg zeroML.toArray, .int .i64 3]) (results_cell_tmp rfl _ _ (gx + 1) 30 _ _ (0, 0) _ rfl rfl hw.out Tryz.underlying30 rfl Tryz.sizeMc) rfl ?_
          unfold MachPost
          rw [HQ.out]
          exact ⟨rfl, by rw [HGX.out]; exact HVV8.out.grown hk.out (by have := HVV8.out.size; have := HGX.out; omega) (fun q e => by injection e with e; omega)⟩
    · have hne : (ce != 0) = true := by simpa using hce
      have HQ : Hid (machR fs bs r = .error ce) := Lib.hid (by unfold machR; rw [HRS.out]; dsimp only; rw [HCE.out, if_neg hce])
      have HZ7 := Lib.hid (HZW.out w7 HV7.out)
      have HVV7 := Lib.hid (HW2.out.trans (HV7.out.mono (by omega)))
      clear hce
      go_wp2_with (refine wpList_store_all rfl 30 (.tmp 2) (.tmp 29) rfl rfl (gx + 1) rfl zeroML rfl Tryz.sizeMc zeroML 30 HZ7.out rfl (mcL_one _ _) ?_; intro wz hw hk)
      refine bodyPost_ret (v := .tuple #[.agg zeroML.toArray, .int .i64 ce]) (results_cell_tmp rfl _ _ (gx + 1) 30 _ _ (0, 0) _ rfl rfl hw.out Tryz.underlying30 rfl Tryz.sizeMc) rfl ?_
      unfold MachPost
      rw [HQ.out]
      exact ⟨rfl, by rw [HGX.out]; exact HVV7.out.grown hk.out (by have := HVV7.out.size; have := HGX.out; omega) (fun q e => by injection e with e; omega)⟩
end Go.Proofs.YtmmfcjkabpffeaaGreatDoor
/-
  Walks: slices.Clone at processes, pipes, writes; machine.copied, machine.Feed. (Printed by gen_copz.py.)
-/
namespace Go.Proofs.YtmmfcjkabpffeaaGreatDoor
open Go.RowKit
attribute [local go_sem] concat_S

/-- a list in a memory from the block B on -/
def NewL (B : Nat) (W : World) (X : Option Addr) (xs : List Value) : Prop := Lies W W.heap.size X xs ∧ ∀ ad, X = some ad → B ≤ ad.block
theorem NewL.below {B : Nat} {W W' : World} {X : Option Addr} {xs : List Value} (h : NewL B W X xs) (hb : Below W.heap.size W W') : NewL B W' X xs := ⟨(Lies.below h.1 hb).wide hb.size, h.2⟩
theorem NewL.one {B q : Nat} {W W' : World} {X : Option Addr} {xs : List Value} (h : NewL B W X xs) (hk : W.grownBy W' (some q)) (hq : q < B) : NewL B W' X xs := ⟨fun k v hv => by
  obtain ⟨ad, e, hb, hc⟩ := h.1 k v hv
  refine ⟨ad, e, Nat.lt_of_lt_of_le hb hk.size, ?_⟩
  rw [← hc]
  unfold World.cell?
  rw [add_block, hk.block ad.block hb (by have := h.2 ad e; intro e2; injection e2 with e2; omega)], h.2⟩
theorem NewL.set {B q K : Nat} {W : World} {X : Option Addr} {xs : List Value} {v : Value} (h : NewL B W X xs) (hq : q < B) : NewL B (W.setCell ⟨q, K, none⟩ v) X xs := h.one (grown_setK W q K v) hq
theorem lies_nil {α : Type} {f : α → List Value} {w : World} {B : Nat} {l : List α} (h : Lies w B none (l.flatMap f)) (hf : ∀ x ∈ l, f x ≠ []) : l = [] := by
  cases l with
  | nil => rfl
  | cons x l =>
    rw [List.flatMap_cons] at h
    have hx := hf x (by simp)
    cases hq : f x with
    | nil => exact absurd hq hx
    | cons v r =>
      rw [hq] at h
      obtain ⟨ad, e, _⟩ := h 0 v rfl
      cases e
set_option maxRecDepth 100000 in
set_option maxHeartbeats 1000000 in
theorem clonePr_any (w : World) (A : Option Addr) (c : Nat) (ls : List Pr) (hok : ∀ p ∈ ls, PrOk p) (hA : Lies w w.heap.size A (prsCells ls)) (hn : ls.length ≤ 4294967296) :
    Calls Tryz.prog 96 #[.slice A ls.length c] w fun e w' => (∃ v, e = .returned v ∧ w'.ownsRow w.heap.size 67 96 v ls.length (prsCells ls)) ∧ Below w.heap.size w w' := by
  obtain ⟨i0, hi0, hz0, hz1, hz2⟩ := info_proc
  have hlen : (prsCells ls).length = ls.length * 96 := prsCells_length hok
  have hone := prsCells_one ls
  cases A with
  | none =>
    have hls : ls = [] := lies_nil hA fun x hx e => by have := prCells_length (hok x hx); rw [e] at this; simp at this
    subst hls
    have he : ∀ W : World, (binOp .eql 24 (.slice none 0 c) (.slice none 0 0)).run Tryz.prog W = .ok (.bool true) W := fun W => Lib.run_eql_slice_nil W 24 67 none 0 c 0 0 Tryz.underlying24
    go_enter Tryz.func96, Tryz.ntmps96
    go_wp2
    go_ret
    exact ⟨⟨_, rfl, World.ownsRow_nil _ _ _ _⟩, Below.refl _ _⟩
  | some ad =>
    have he : ∀ W : World, (binOp .eql 24 (.slice (some ad) ls.length c) (.slice none 0 0)).run Tryz.prog W = .ok (.bool false) W := fun W => Lib.run_eql_slice_nil W 24 67 (some ad) ls.length c 0 0 Tryz.underlying24
    have HN : Hid (∀ j u, (prsCells ls)[j]? = some u → (w.alloc (.cells #[] 67)).cell? (ad.add j) = some u) := Lib.hid (fun j u hu => by
      obtain ⟨ad', e, hb, hc⟩ := hA j u hu
      injection e with e; subst e
      rw [← hc]; exact World.cell?_alloc_lt w _ _ (by rw [add_block]; exact hb))
    have HO : Hid ((w.alloc (.cells #[] 67)).ownsRow w.heap.size 67 96 (.slice (some ⟨w.heap.size, 0, none⟩) 0 0) 0 []) := Lib.hid (World.ownsRow_lit w #[] 0 (Nat.le_refl _) (by unfold maxLen; omega) rfl)
    have H63 : Hid (0 + ls.length ≤ maxLen) := Lib.hid (by unfold maxLen; omega)
    have HBY : Hid ((0 + ls.length) * i0.bytes ≤ 140737488355328) := Lib.hid (by rw [Nat.zero_add]; exact Nat.le_trans (Nat.mul_le_mul hn hz2) (by decide))
    have HBA : Hid (w.heap.size ≤ (w.alloc (.cells #[] 67)).heap.size) := Lib.hid (by simp)
    clear hA
    go_enter Tryz.func96, Tryz.ntmps96
    go_wp2_with (at_builtin; refine wpList_append_own _ rfl (.tmp 5) (.tmp 6) 24 rfl w.heap.size 67 i0 _ 96 _ Tryz.underlying24 hi0 hz0 hz1 rfl (by kernel_rfl) (by decide) _ _ _ rfl HO.out ad ls.length c (prsCells ls) rfl hlen HN.out hone H63.out HBY.out HBA.out ?_; intro v' w1 hown' hgrow _)
    go_ret
    refine ⟨⟨_, rfl, by simpa using hown'⟩, ?_⟩
    exact ((Below.refl _ _).alloc (Nat.le_refl _) _).grown hgrow HBA.out (own_ge HO.out)
set_option maxRecDepth 100000 in
set_option maxHeartbeats 1000000 in
theorem clonePi_any (w : World) (A : Option Addr) (c : Nat) (ls : List Nb) (hA : Lies w w.heap.size A (nbCells ls)) (hn : ls.length ≤ 1099511627776) :
    Calls Tryz.prog 97 #[.slice A ls.length c] w fun e w' => (∃ v, e = .returned v ∧ w'.ownsRow w.heap.size 70 2 v ls.length (nbCells ls)) ∧ Below w.heap.size w w' := by
  obtain ⟨i0, hi0, hz0, hz1, hz2⟩ := info_parts Tryz.infoPi3
  have hlen : (nbCells ls).length = ls.length * 2 := nbCells_length ls
  have hone := nbCells_one ls
  cases A with
  | none =>
    have hls : ls = [] := lies_nil hA fun x hx e => by cases e
    subst hls
    have he : ∀ W : World, (binOp .eql 25 (.slice none 0 c) (.slice none 0 0)).run Tryz.prog W = .ok (.bool true) W := fun W => Lib.run_eql_slice_nil W 25 70 none 0 c 0 0 Tryz.underlying25
    go_enter Tryz.func97, Tryz.ntmps97
    go_wp2
    go_ret
    exact ⟨⟨_, rfl, World.ownsRow_nil _ _ _ _⟩, Below.refl _ _⟩
  | some ad =>
    have he : ∀ W : World, (binOp .eql 25 (.slice (some ad) ls.length c) (.slice none 0 0)).run Tryz.prog W = .ok (.bool false) W := fun W => Lib.run_eql_slice_nil W 25 70 (some ad) ls.length c 0 0 Tryz.underlying25
    have HN : Hid (∀ j u, (nbCells ls)[j]? = some u → (w.alloc (.cells #[] 70)).cell? (ad.add j) = some u) := Lib.hid (fun j u hu => by
      obtain ⟨ad', e, hb, hc⟩ := hA j u hu
      injection e with e; subst e
      rw [← hc]; exact World.cell?_alloc_lt w _ _ (by rw [add_block]; exact hb))
    have HO : Hid ((w.alloc (.cells #[] 70)).ownsRow w.heap.size 70 2 (.slice (some ⟨w.heap.size, 0, none⟩) 0 0) 0 []) := Lib.hid (World.ownsRow_lit w #[] 0 (Nat.le_refl _) (by unfold maxLen; omega) rfl)
    have H63 : Hid (0 + ls.length ≤ maxLen) := Lib.hid (by unfold maxLen; omega)
    have HBY : Hid ((0 + ls.length) * i0.bytes ≤ 140737488355328) := Lib.hid (by rw [hz2]; omega)
    have HBA : Hid (w.heap.size ≤ (w.alloc (.cells #[] 70)).heap.size) := Lib.hid (by simp)
    clear hA
    go_enter Tryz.func97, Tryz.ntmps97
    go_wp2_with (at_builtin; refine wpList_append_own _ rfl (.tmp 5) (.tmp 6) 25 rfl w.heap.size 70 i0 _ 2 _ Tryz.underlying25 hi0 hz0 hz1 rfl (by kernel_rfl) (by decide) _ _ _ rfl HO.out ad ls.length c (nbCells ls) rfl hlen HN.out hone H63.out HBY.out HBA.out ?_; intro v' w1 hown' hgrow _)
    go_ret
    refine ⟨⟨_, rfl, by simpa using hown'⟩, ?_⟩
    exact ((Below.refl _ _).alloc (Nat.le_refl _) _).grown hgrow HBA.out (own_ge HO.out)
set_option maxRecDepth 100000 in
set_option maxHeartbeats 1000000 in
theorem cloneWr_any (w : World) (A : Option Addr) (c : Nat) (ls : List Nb) (hA : Lies w w.heap.size A (nbCells ls)) (hn : ls.length ≤ 1099511627776) :
    Calls Tryz.prog 98 #[.slice A ls.length c] w fun e w' => (∃ v, e = .returned v ∧ w'.ownsRow w.heap.size 95 2 v ls.length (nbCells ls)) ∧ Below w.heap.size w w' := by
  obtain ⟨i0, hi0, hz0, hz1, hz2⟩ := info_parts Tryz.infoWr3
  have hlen : (nbCells ls).length = ls.length * 2 := nbCells_length ls
  have hone := nbCells_one ls
  cases A with
  | none =>
    have hls : ls = [] := lies_nil hA fun x hx e => by cases e
    subst hls
    have he : ∀ W : World, (binOp .eql 26 (.slice none 0 c) (.slice none 0 0)).run Tryz.prog W = .ok (.bool true) W := fun W => Lib.run_eql_slice_nil W 26 95 none 0 c 0 0 Tryz.underlying26
    go_enter Tryz.func98, Tryz.ntmps98
    go_wp2
    go_ret
    exact ⟨⟨_, rfl, World.ownsRow_nil _ _ _ _⟩, Below.refl _ _⟩
  | some ad =>
    have he : ∀ W : World, (binOp .eql 26 (.slice (some ad) ls.length c) (.slice none 0 0)).run Tryz.prog W = .ok (.bool false) W := fun W => Lib.run_eql_slice_nil W 26 95 (some ad) ls.length c 0 0 Tryz.underlying26
    have HN : Hid (∀ j u, (nbCells ls)[j]? = some u → (w.alloc (.cells #[] 95)).cell? (ad.add j) = some u) := Lib.hid (fun j u hu => by
      obtain ⟨ad', e, hb, hc⟩ := hA j u hu
      injection e with e; subst e
      rw [← hc]; exact World.cell?_alloc_lt w _ _ (by rw [add_block]; exact hb))
    have HO : Hid ((w.alloc (.cells #[] 95)).ownsRow w.heap.size 95 2 (.slice (some ⟨w.heap.size, 0, none⟩) 0 0) 0 []) := Lib.hid (World.ownsRow_lit w #[] 0 (Nat.le_refl _) (by unfold maxLen; omega) rfl)
    have H63 : Hid (0 + ls.length ≤ maxLen) := Lib.hid (by unfold maxLen; omega)
    have HBY : Hid ((0 + ls.length) * i0.bytes ≤ 140737488355328) := Lib.hid (by rw [hz2]; omega)
    have HBA : Hid (w.heap.size ≤ (w.alloc (.cells #[] 95)).heap.size) := Lib.hid (by simp)
    clear hA
    go_enter Tryz.func98, Tryz.ntmps98
    go_wp2_with (at_builtin; refine wpList_append_own _ rfl (.tmp 5) (.tmp 6) 26 rfl w.heap.size 95 i0 _ 2 _ Tryz.underlying26 hi0 hz0 hz1 rfl (by kernel_rfl) (by decide) _ _ _ rfl HO.out ad ls.length c (nbCells ls) rfl hlen HN.out hone H63.out HBY.out HBA.out ?_; intro v' w1 hown' hgrow _)
    go_ret
    refine ⟨⟨_, rfl, by simpa using hown'⟩, ?_⟩
    exact ((Below.refl _ _).alloc (Nat.le_refl _) _).grown hgrow HBA.out (own_ge HO.out)
/-- what copied gives -/
def OwnM (B : Nat) (W : World) (a : MA) (m : Mc) : Prop := NewL B W a.F (m.frames.map S) ∧ NewL B W a.P (prsCells m.procs) ∧ NewL B W a.Q (nbCells m.pipes) ∧ NewL B W a.L (m.blocks.map S) ∧ NewL B W a.N (nbCells m.pend) ∧ NewL B W a.D (nbCells m.dirty)
def CapM (a : MA) (m : Mc) : Prop := m.frames.length ≤ a.cF ∧ m.procs.length ≤ a.cP ∧ m.pipes.length ≤ a.cQ ∧ m.blocks.length ≤ a.cL ∧ m.pend.length ≤ a.cN ∧ m.dirty.length ≤ a.cD
theorem OwnM.at {B : Nat} {W : World} {a : MA} {m : Mc} (h : OwnM B W a m) (hc : CapM a m) : MAt W W.heap.size a m := ⟨h.1.1, h.2.1.1, h.2.2.1.1, h.2.2.2.1.1, h.2.2.2.2.1.1, h.2.2.2.2.2.1, hc⟩
theorem OwnM.one {B q : Nat} {W W' : World} {a : MA} {m : Mc} (h : OwnM B W a m) (hk : W.grownBy W' (some q)) (hq : q < B) : OwnM B W' a m := ⟨h.1.one hk hq, h.2.1.one hk hq, h.2.2.1.one hk hq, h.2.2.2.1.one hk hq, h.2.2.2.2.1.one hk hq, h.2.2.2.2.2.one hk hq⟩
theorem OwnM.below {B : Nat} {W W' : World} {a : MA} {m : Mc} (h : OwnM B W a m) (hb : Below W.heap.size W W') : OwnM B W' a m := ⟨h.1.below hb, h.2.1.below hb, h.2.2.1.below hb, h.2.2.2.1.below hb, h.2.2.2.2.1.below hb, h.2.2.2.2.2.below hb⟩
def CopyPost (w : World) (m : Mc) (e : Ending) (w' : World) : Prop :=
  (∃ a : MA, e = .returned (.agg (mcL a m).toArray) ∧ OwnM w.heap.size w' a m ∧ CapM a m) ∧ Below w.heap.size w w'
set_option maxRecDepth 100000 in
set_option maxHeartbeats 4000000 in
theorem copied_any (w : World) (a : MA) (m : Mc) (hm : McOk m) (hprl : m.procs.length ≤ 4294967296) (hpil : m.pipes.length ≤ 1099511627776) (hA : MAt w w.heap.size a m) :
    Calls Tryz.prog 43 #[.agg (mcL a m).toArray] w (CopyPost w m) := by
  have hs0 := (Whole.made w 30 (mcL a m).toArray).block (.cells #[.int .u64 0, .int .i64 0, .int .i64 0, .int .i64 0, .slice none 0 0, .slice none 0 0, .int .i64 0, S [], .slice none 0 0, .int .i64 0, S [], .bool false, .int .u64 0, .slice none 0 0, .slice none 0 0, .int .i64 0, .slice none 0 0] 30)
  have hs1 := Whole.made (w.alloc (.cells (mcL a m).toArray 30)) 30 #[.int .u64 0, .int .i64 0, .int .i64 0, .int .i64 0, .slice none 0 0, .slice none 0 0, .int .i64 0, S [], .slice none 0 0, .int .i64 0, S [], .bool false, .int .u64 0, .slice none 0 0, .slice none 0 0, .int .i64 0, .slice none 0 0]
  rw [show (w.alloc (.cells (mcL a m).toArray 30)).heap.size = w.heap.size + 1 by simp] at hs1
  have hb : Below w.heap.size w ((w.alloc (.cells (mcL a m).toArray 30)).alloc (.cells #[.int .u64 0, .int .i64 0, .int .i64 0, .int .i64 0, .slice none 0 0, .slice none 0 0, .int .i64 0, S [], .slice none 0 0, .int .i64 0, S [], .bool false, .int .u64 0, .slice none 0 0, .slice none 0 0, .int .i64 0, .slice none 0 0] 30)) := ((Below.refl _ _).alloc (by first | exact Nat.le_refl _ | simp | (simp; omega)) _).alloc (by first | exact Nat.le_refl _ | simp | (simp; omega)) _
  go_enter Tryz.func43, Tryz.ntmps43
  go_upto_region 1 with (fail)
  change Code.wp _ _ _ _ ((w.alloc (.cells (mcL a m).toArray 30)).alloc (.cells #[.int .u64 0, .int .i64 0, .int .i64 0, .int .i64 0, .slice none 0 0, .slice none 0 0, .int .i64 0, S [], .slice none 0 0, .int .i64 0, S [], .bool false, .int .u64 0, .slice none 0 0, .slice none 0 0, .int .i64 0, .slice none 0 0] 30))
  generalize ((w.alloc (.cells (mcL a m).toArray 30)).alloc (.cells #[.int .u64 0, .int .i64 0, .int .i64 0, .int .i64 0, .slice none 0 0, .slice none 0 0, .int .i64 0, S [], .slice none 0 0, .int .i64 0, S [], .bool false, .int .u64 0, .slice none 0 0, .slice none 0 0, .int .i64 0, .slice none 0 0] 30)) = w1 at *
  generalize hgx : w.heap.size = gx at *
  have HGX := Lib.hid hgx
  have HS0 := Lib.hid hs0
  have HS1 := Lib.hid hs1
  have HW := Lib.hid hb
  have hgl : gx + 1 < w1.heap.size := hs1.lt
  clear hgx hb hs0 hs1
  have HZ1 : Hid (Whole w1 (gx + 1) 30 zeroML.toArray) := Lib.hid HS1.out
  clear HS1
  have HA : Hid (MAt w gx a m) := Lib.hid hA
  have HM := Lib.hid hm
  have HV1 := HW
  have HB1 := HS0
  clear hA HS0
  have c0 : w1.cell? ⟨gx, 4, none⟩ = some (.slice a.F m.frames.length a.cF) := HB1.out.cell 4
  have hs1 : gx + 2 ≤ w1.heap.size := by omega
  have CX := Lib.hid (cloneS_any w1 a.F a.cF m.frames (Lies.wide (HA.out.below (HV1.out)).F (by omega)) (by have := hm.sizes.1; omega))
  go_wp2_with fail
  refine CX.out.mono ?_
  rintro e w2 ⟨⟨v, rfl, ho⟩, hb⟩
  obtain ⟨X0, d0, rfl, hl, hg⟩ := own_shape ho (by decide)
  have CP0 := Lib.hid (own_cap ho)
  have HV2 := Lib.hid (HV1.out.trans (hb.mono (by omega)))
  have HB2 := Lib.hid (HB1.out.below hb HB1.out.lt)
  have HZ2 := Lib.hid (HZ1.out.below hb HZ1.out.lt)
  have NL0x2 : Hid (NewL (gx + 2) w2 X0 (m.frames.map S)) := Lib.hid ⟨hl, fun ad e => Nat.le_trans hs1 (hg ad e)⟩
  have hs2 : gx + 2 ≤ w2.heap.size := Nat.le_trans hs1 hb.size
  have c1 : w2.cell? ⟨gx, 4, none⟩ = some (.slice a.F m.frames.length a.cF) := HB2.out.cell 4
  have y1 : w2.frozen? ⟨gx, 4, none⟩ = false := HB2.out.free 4
  clear hl hg ho hb CX c0 HV1 HB1 HZ1 hs1 
  have HB3 : Hid (Whole (w2.setCell ⟨gx, 4, none⟩ (.slice X0 m.frames.length d0)) gx 30 (mcL ({ a with F := X0, cF := d0 } : MA) m).toArray) := Lib.hid (HB2.out.set 4 (.slice X0 m.frames.length d0))
  have HZ3 := Lib.hid (HZ2.out.far (p := ⟨gx, 4, none⟩) (by show gx + 1 ≠ gx; omega) (.slice X0 m.frames.length d0))
  have HV3 := Lib.hid (HV2.out.setCell (p := ⟨gx, 4, none⟩) (Nat.le_refl _) (.slice X0 m.frames.length d0))
  have hsz3 : gx + 2 ≤ (w2.setCell ⟨gx, 4, none⟩ (.slice X0 m.frames.length d0)).heap.size := by simpa [World.setCell] using hs2
  have NL0x3 := Lib.hid (NL0x2.out.set (q := gx) (K := 4) (v := .slice X0 m.frames.length d0) (by omega))
  go_upto_region 2 with (fail)
  clear c1 y1 HV2 HB2 HZ2 hs2 NL0x2
  generalize (w2.setCell ⟨gx, 4, none⟩ (.slice X0 m.frames.length d0)) = w3 at *
  have c0 : w3.cell? ⟨gx, 5, none⟩ = some (.slice a.P m.procs.length a.cP) := HB3.out.cell 5
  have hs3 : gx + 2 ≤ w3.heap.size := hsz3
  have CX := Lib.hid (clonePr_any w3 a.P a.cP m.procs HM.out.procs (Lies.wide (HA.out.below (HV3.out)).P (by omega)) (hprl))
  go_wp2_with fail
  refine CX.out.mono ?_
  rintro e w4 ⟨⟨v, rfl, ho⟩, hb⟩
  obtain ⟨X1, d1, rfl, hl, hg⟩ := own_shape ho (by decide)
  have CP1 := Lib.hid (own_cap ho)
  have HV4 := Lib.hid (HV3.out.trans (hb.mono (by omega)))
  have HB4 := Lib.hid (HB3.out.below hb HB3.out.lt)
  have HZ4 := Lib.hid (HZ3.out.below hb HZ3.out.lt)
  have NL1x4 : Hid (NewL (gx + 2) w4 X1 (prsCells m.procs)) := Lib.hid ⟨hl, fun ad e => Nat.le_trans hs3 (hg ad e)⟩
  have NL0x4 := Lib.hid (NL0x3.out.below hb)
  have hs4 : gx + 2 ≤ w4.heap.size := Nat.le_trans hs3 hb.size
  have c1 : w4.cell? ⟨gx, 5, none⟩ = some (.slice a.P m.procs.length a.cP) := HB4.out.cell 5
  have y1 : w4.frozen? ⟨gx, 5, none⟩ = false := HB4.out.free 5
  clear hl hg ho hb CX c0 HV3 HB3 HZ3 hs3 hsz3 NL0x3
  have HB5 : Hid (Whole (w4.setCell ⟨gx, 5, none⟩ (.slice X1 m.procs.length d1)) gx 30 (mcL ({ a with F := X0, cF := d0, P := X1, cP := d1 } : MA) m).toArray) := Lib.hid (HB4.out.set 5 (.slice X1 m.procs.length d1))
  have HZ5 := Lib.hid (HZ4.out.far (p := ⟨gx, 5, none⟩) (by show gx + 1 ≠ gx; omega) (.slice X1 m.procs.length d1))
  have HV5 := Lib.hid (HV4.out.setCell (p := ⟨gx, 5, none⟩) (Nat.le_refl _) (.slice X1 m.procs.length d1))
  have hsz5 : gx + 2 ≤ (w4.setCell ⟨gx, 5, none⟩ (.slice X1 m.procs.length d1)).heap.size := by simpa [World.setCell] using hs4
  have NL0x5 := Lib.hid (NL0x4.out.set (q := gx) (K := 5) (v := .slice X1 m.procs.length d1) (by omega))
  have NL1x5 := Lib.hid (NL1x4.out.set (q := gx) (K := 5) (v := .slice X1 m.procs.length d1) (by omega))
  go_upto_region 3 with (fail)
  clear c1 y1 HV4 HB4 HZ4 hs4 NL0x4 NL1x4
  generalize (w4.setCell ⟨gx, 5, none⟩ (.slice X1 m.procs.length d1)) = w5 at *
  have c0 : w5.cell? ⟨gx, 8, none⟩ = some (.slice a.Q m.pipes.length a.cQ) := HB5.out.cell 8
  have hs5 : gx + 2 ≤ w5.heap.size := hsz5
  have CX := Lib.hid (clonePi_any w5 a.Q a.cQ m.pipes (Lies.wide (HA.out.below (HV5.out)).Q (by omega)) (by omega))
  go_wp2_with fail
  refine CX.out.mono ?_
  rintro e w6 ⟨⟨v, rfl, ho⟩, hb⟩
  obtain ⟨X2, d2, rfl, hl, hg⟩ := own_shape ho (by decide)
  have CP2 := Lib.hid (own_cap ho)
  have HV6 := Lib.hid (HV5.out.trans (hb.mono (by omega)))
  have HB6 := Lib.hid (HB5.out.below hb HB5.out.lt)
  have HZ6 := Lib.hid (HZ5.out.below hb HZ5.out.lt)
  have NL2x6 : Hid (NewL (gx + 2) w6 X2 (nbCells m.pipes)) := Lib.hid ⟨hl, fun ad e => Nat.le_trans hs5 (hg ad e)⟩
  have NL0x6 := Lib.hid (NL0x5.out.below hb)
  have NL1x6 := Lib.hid (NL1x5.out.below hb)
  have hs6 : gx + 2 ≤ w6.heap.size := Nat.le_trans hs5 hb.size
  have c1 : w6.cell? ⟨gx, 8, none⟩ = some (.slice a.Q m.pipes.length a.cQ) := HB6.out.cell 8
  have y1 : w6.frozen? ⟨gx, 8, none⟩ = false := HB6.out.free 8
  clear hl hg ho hb CX c0 HV5 HB5 HZ5 hs5 hsz5 NL0x5 NL1x5
  have HB7 : Hid (Whole (w6.setCell ⟨gx, 8, none⟩ (.slice X2 m.pipes.length d2)) gx 30 (mcL ({ a with F := X0, cF := d0, P := X1, cP := d1, Q := X2, cQ := d2 } : MA) m).toArray) := Lib.hid (HB6.out.set 8 (.slice X2 m.pipes.length d2))
  have HZ7 := Lib.hid (HZ6.out.far (p := ⟨gx, 8, none⟩) (by show gx + 1 ≠ gx; omega) (.slice X2 m.pipes.length d2))
  have HV7 := Lib.hid (HV6.out.setCell (p := ⟨gx, 8, none⟩) (Nat.le_refl _) (.slice X2 m.pipes.length d2))
  have hsz7 : gx + 2 ≤ (w6.setCell ⟨gx, 8, none⟩ (.slice X2 m.pipes.length d2)).heap.size := by simpa [World.setCell] using hs6
  have NL0x7 := Lib.hid (NL0x6.out.set (q := gx) (K := 8) (v := .slice X2 m.pipes.length d2) (by omega))
  have NL1x7 := Lib.hid (NL1x6.out.set (q := gx) (K := 8) (v := .slice X2 m.pipes.length d2) (by omega))
  have NL2x7 := Lib.hid (NL2x6.out.set (q := gx) (K := 8) (v := .slice X2 m.pipes.length d2) (by omega))
  go_upto_region 4 with (fail)
  clear c1 y1 HV6 HB6 HZ6 hs6 NL0x6 NL1x6 NL2x6
  generalize (w6.setCell ⟨gx, 8, none⟩ (.slice X2 m.pipes.length d2)) = w7 at *
  have c0 : w7.cell? ⟨gx, 13, none⟩ = some (.slice a.L m.blocks.length a.cL) := HB7.out.cell 13
  have hs7 : gx + 2 ≤ w7.heap.size := hsz7
  have CX := Lib.hid (cloneS_any w7 a.L a.cL m.blocks (Lies.wide (HA.out.below (HV7.out)).L (by omega)) (by have := hm.sizes.2.2.2.1; omega))
  go_wp2_with fail
  refine CX.out.mono ?_
  rintro e w8 ⟨⟨v, rfl, ho⟩, hb⟩
  obtain ⟨X3, d3, rfl, hl, hg⟩ := own_shape ho (by decide)
  have CP3 := Lib.hid (own_cap ho)
  have HV8 := Lib.hid (HV7.out.trans (hb.mono (by omega)))
  have HB8 := Lib.hid (HB7.out.below hb HB7.out.lt)
  have HZ8 := Lib.hid (HZ7.out.below hb HZ7.out.lt)
  have NL3x8 : Hid (NewL (gx + 2) w8 X3 (m.blocks.map S)) := Lib.hid ⟨hl, fun ad e => Nat.le_trans hs7 (hg ad e)⟩
  have NL0x8 := Lib.hid (NL0x7.out.below hb)
  have NL1x8 := Lib.hid (NL1x7.out.below hb)
  have NL2x8 := Lib.hid (NL2x7.out.below hb)
  have hs8 : gx + 2 ≤ w8.heap.size := Nat.le_trans hs7 hb.size
  have c1 : w8.cell? ⟨gx, 13, none⟩ = some (.slice a.L m.blocks.length a.cL) := HB8.out.cell 13
  have y1 : w8.frozen? ⟨gx, 13, none⟩ = false := HB8.out.free 13
  clear hl hg ho hb CX c0 HV7 HB7 HZ7 hs7 hsz7 NL0x7 NL1x7 NL2x7
  have HB9 : Hid (Whole (w8.setCell ⟨gx, 13, none⟩ (.slice X3 m.blocks.length d3)) gx 30 (mcL ({ a with F := X0, cF := d0, P := X1, cP := d1, Q := X2, cQ := d2, L := X3, cL := d3 } : MA) m).toArray) := Lib.hid (HB8.out.set 13 (.slice X3 m.blocks.length d3))
  have HZ9 := Lib.hid (HZ8.out.far (p := ⟨gx, 13, none⟩) (by show gx + 1 ≠ gx; omega) (.slice X3 m.blocks.length d3))
  have HV9 := Lib.hid (HV8.out.setCell (p := ⟨gx, 13, none⟩) (Nat.le_refl _) (.slice X3 m.blocks.length d3))
  have hsz9 : gx + 2 ≤ (w8.setCell ⟨gx, 13, none⟩ (.slice X3 m.blocks.length d3)).heap.size := by simpa [World.setCell] using hs8
  have NL0x9 := Lib.hid (NL0x8.out.set (q := gx) (K := 13) (v := .slice X3 m.blocks.length d3) (by omega))
  have NL1x9 := Lib.hid (NL1x8.out.set (q := gx) (K := 13) (v := .slice X3 m.blocks.length d3) (by omega))
  have NL2x9 := Lib.hid (NL2x8.out.set (q := gx) (K := 13) (v := .slice X3 m.blocks.length d3) (by omega))
  have NL3x9 := Lib.hid (NL3x8.out.set (q := gx) (K := 13) (v := .slice X3 m.blocks.length d3) (by omega))
  go_upto_region 5 with (fail)
  clear c1 y1 HV8 HB8 HZ8 hs8 NL0x8 NL1x8 NL2x8 NL3x8
  generalize (w8.setCell ⟨gx, 13, none⟩ (.slice X3 m.blocks.length d3)) = w9 at *
  have c0 : w9.cell? ⟨gx, 14, none⟩ = some (.slice a.N m.pend.length a.cN) := HB9.out.cell 14
  have hs9 : gx + 2 ≤ w9.heap.size := hsz9
  have CX := Lib.hid (cloneWr_any w9 a.N a.cN m.pend (Lies.wide (HA.out.below (HV9.out)).N (by omega)) (by have := hm.sizes.2.2.2.2.1; omega))
  go_wp2_with fail
  refine CX.out.mono ?_
  rintro e w10 ⟨⟨v, rfl, ho⟩, hb⟩
  obtain ⟨X4, d4, rfl, hl, hg⟩ := own_shape ho (by decide)
  have CP4 := Lib.hid (own_cap ho)
  have HV10 := Lib.hid (HV9.out.trans (hb.mono (by omega)))
  have HB10 := Lib.hid (HB9.out.below hb HB9.out.lt)
  have HZ10 := Lib.hid (HZ9.out.below hb HZ9.out.lt)
  have NL4x10 : Hid (NewL (gx + 2) w10 X4 (nbCells m.pend)) := Lib.hid ⟨hl, fun ad e => Nat.le_trans hs9 (hg ad e)⟩
  have NL0x10 := Lib.hid (NL0x9.out.below hb)
  have NL1x10 := Lib.hid (NL1x9.out.below hb)
  have NL2x10 := Lib.hid (NL2x9.out.below hb)
  have NL3x10 := Lib.hid (NL3x9.out.below hb)
  have hs10 : gx + 2 ≤ w10.heap.size := Nat.le_trans hs9 hb.size
  have c1 : w10.cell? ⟨gx, 14, none⟩ = some (.slice a.N m.pend.length a.cN) := HB10.out.cell 14
  have y1 : w10.frozen? ⟨gx, 14, none⟩ = false := HB10.out.free 14
  clear hl hg ho hb CX c0 HV9 HB9 HZ9 hs9 hsz9 NL0x9 NL1x9 NL2x9 NL3x9
  have HB11 : Hid (Whole (w10.setCell ⟨gx, 14, none⟩ (.slice X4 m.pend.length d4)) gx 30 (mcL ({ a with F := X0, cF := d0, P := X1, cP := d1, Q := X2, cQ := d2, L := X3, cL := d3, N := X4, cN := d4 } : MA) m).toArray) := Lib.hid (HB10.out.set 14 (.slice X4 m.pend.length d4))
  have HZ11 := Lib.hid (HZ10.out.far (p := ⟨gx, 14, none⟩) (by show gx + 1 ≠ gx; omega) (.slice X4 m.pend.length d4))
  have HV11 := Lib.hid (HV10.out.setCell (p := ⟨gx, 14, none⟩) (Nat.le_refl _) (.slice X4 m.pend.length d4))
  have hsz11 : gx + 2 ≤ (w10.setCell ⟨gx, 14, none⟩ (.slice X4 m.pend.length d4)).heap.size := by simpa [World.setCell] using hs10
  have NL0x11 := Lib.hid (NL0x10.out.set (q := gx) (K := 14) (v := .slice X4 m.pend.length d4) (by omega))
  have NL1x11 := Lib.hid (NL1x10.out.set (q := gx) (K := 14) (v := .slice X4 m.pend.length d4) (by omega))
  have NL2x11 := Lib.hid (NL2x10.out.set (q := gx) (K := 14) (v := .slice X4 m.pend.length d4) (by omega))
  have NL3x11 := Lib.hid (NL3x10.out.set (q := gx) (K := 14) (v := .slice X4 m.pend.length d4) (by omega))
  have NL4x11 := Lib.hid (NL4x10.out.set (q := gx) (K := 14) (v := .slice X4 m.pend.length d4) (by omega))
  go_upto_region 6 with (fail)
  clear c1 y1 HV10 HB10 HZ10 hs10 NL0x10 NL1x10 NL2x10 NL3x10 NL4x10
  generalize (w10.setCell ⟨gx, 14, none⟩ (.slice X4 m.pend.length d4)) = w11 at *
  have c0 : w11.cell? ⟨gx, 16, none⟩ = some (.slice a.D m.dirty.length a.cD) := HB11.out.cell 16
  have hs11 : gx + 2 ≤ w11.heap.size := hsz11
  have CX := Lib.hid (cloneWr_any w11 a.D a.cD m.dirty (Lies.wide (HA.out.below (HV11.out)).D (by omega)) (by have := hm.sizes.2.2.2.2.2; omega))
  go_wp2_with fail
  refine CX.out.mono ?_
  rintro e w12 ⟨⟨v, rfl, ho⟩, hb⟩
  obtain ⟨X5, d5, rfl, hl, hg⟩ := own_shape ho (by decide)
  have CP5 := Lib.hid (own_cap ho)
  have HV12 := Lib.hid (HV11.out.trans (hb.mono (by omega)))
  have HB12 := Lib.hid (HB11.out.below hb HB11.out.lt)
  have HZ12 := Lib.hid (HZ11.out.below hb HZ11.out.lt)
  have NL5x12 : Hid (NewL (gx + 2) w12 X5 (nbCells m.dirty)) := Lib.hid ⟨hl, fun ad e => Nat.le_trans hs11 (hg ad e)⟩
  have NL0x12 := Lib.hid (NL0x11.out.below hb)
  have NL1x12 := Lib.hid (NL1x11.out.below hb)
  have NL2x12 := Lib.hid (NL2x11.out.below hb)
  have NL3x12 := Lib.hid (NL3x11.out.below hb)
  have NL4x12 := Lib.hid (NL4x11.out.below hb)
  have hs12 : gx + 2 ≤ w12.heap.size := Nat.le_trans hs11 hb.size
  have c1 : w12.cell? ⟨gx, 16, none⟩ = some (.slice a.D m.dirty.length a.cD) := HB12.out.cell 16
  have y1 : w12.frozen? ⟨gx, 16, none⟩ = false := HB12.out.free 16
  clear hl hg ho hb CX c0 HV11 HB11 HZ11 hs11 hsz11 NL0x11 NL1x11 NL2x11 NL3x11 NL4x11
  have HB13 : Hid (Whole (w12.setCell ⟨gx, 16, none⟩ (.slice X5 m.dirty.length d5)) gx 30 (mcL ({ a with F := X0, cF := d0, P := X1, cP := d1, Q := X2, cQ := d2, L := X3, cL := d3, N := X4, cN := d4, D := X5, cD := d5 } : MA) m).toArray) := Lib.hid (HB12.out.set 16 (.slice X5 m.dirty.length d5))
  have HZ13 := Lib.hid (HZ12.out.far (p := ⟨gx, 16, none⟩) (by show gx + 1 ≠ gx; omega) (.slice X5 m.dirty.length d5))
  have HV13 := Lib.hid (HV12.out.setCell (p := ⟨gx, 16, none⟩) (Nat.le_refl _) (.slice X5 m.dirty.length d5))
  have hsz13 : gx + 2 ≤ (w12.setCell ⟨gx, 16, none⟩ (.slice X5 m.dirty.length d5)).heap.size := by simpa [World.setCell] using hs12
  have NL0x13 := Lib.hid (NL0x12.out.set (q := gx) (K := 16) (v := .slice X5 m.dirty.length d5) (by omega))
  have NL1x13 := Lib.hid (NL1x12.out.set (q := gx) (K := 16) (v := .slice X5 m.dirty.length d5) (by omega))
  have NL2x13 := Lib.hid (NL2x12.out.set (q := gx) (K := 16) (v := .slice X5 m.dirty.length d5) (by omega))
  have NL3x13 := Lib.hid (NL3x12.out.set (q := gx) (K := 16) (v := .slice X5 m.dirty.length d5) (by omega))
  have NL4x13 := Lib.hid (NL4x12.out.set (q := gx) (K := 16) (v := .slice X5 m.dirty.length d5) (by omega))
  have NL5x13 := Lib.hid (NL5x12.out.set (q := gx) (K := 16) (v := .slice X5 m.dirty.length d5) (by omega))
  go_upto_region 7 with (fail)
  clear c1 y1 HV12 HB12 HZ12 hs12 NL0x12 NL1x12 NL2x12 NL3x12 NL4x12 NL5x12
  generalize (w12.setCell ⟨gx, 16, none⟩ (.slice X5 m.dirty.length d5)) = w13 at *
  have LD := Lib.hid HB13.out.reads
  have hone := mcL_one ({ a with F := X0, cF := d0, P := X1, cP := d1, Q := X2, cQ := d2, L := X3, cL := d3, N := X4, cN := d4, D := X5, cD := d5 } : MA) m
  have HOW : Hid (OwnM (gx + 2) w13 ({ a with F := X0, cF := d0, P := X1, cP := d1, Q := X2, cQ := d2, L := X3, cL := d3, N := X4, cN := d4, D := X5, cD := d5 } : MA) m) := Lib.hid ⟨NL0x13.out, NL1x13.out, NL2x13.out, NL3x13.out, NL4x13.out, NL5x13.out⟩
  have HCA : Hid (CapM ({ a with F := X0, cF := d0, P := X1, cP := d1, Q := X2, cQ := d2, L := X3, cL := d3, N := X4, cN := d4, D := X5, cD := d5 } : MA) m) := Lib.hid ⟨CP0.out, CP1.out, CP2.out, CP3.out, CP4.out, CP5.out⟩
  clear NL0x13 CP0 NL1x13 CP1 NL2x13 CP2 NL3x13 CP3 NL4x13 CP4 NL5x13 CP5
  generalize ({ a with F := X0, cF := d0, P := X1, cP := d1, Q := X2, cQ := d2, L := X3, cL := d3, N := X4, cN := d4, D := X5, cD := d5 } : MA) = a' at *
  have HLN : Hid ((mcL a' m).length = 17) := Lib.hid rfl
  obtain ⟨cs, HCS⟩ : ∃ z, Hid (mcL a' m = z) := ⟨_, Lib.hid rfl⟩
  rw [HCS.out] at LD hone HLN
  have MI : Hid ((Tryz.prog.info? 30).map (·.size) = some cs.length) := Lib.hid (by rw [HLN.out]; exact Tryz.sizeMc)
  go_wp2_with (first
    | (refine wpList_load_at rfl 30 (.tmp 1) rfl ⟨gx, 0, none⟩ rfl cs _ LD.out Tryz.underlying30 rfl MI.out ?_)
    | (refine wpList_store_all rfl 30 (.tmp 2) (.tmp 31) rfl rfl (gx + 1) rfl cs rfl MI.out zeroML 30 HZ13.out (by rw [HLN.out]; rfl) hone ?_; intro wz hw hk))
  refine bodyPost_ret (v := .agg cs.toArray) (results_cell_row rfl _ _ (gx + 1) 30 _ (0, 0) _ rfl hw.out Tryz.underlying30 rfl (by rw [List.size_toArray]; exact MI.out)) rfl ?_
  refine ⟨⟨a', by rw [HCS.out], ?_, HCA.out⟩, by rw [HGX.out]; exact HV13.out.grown hk.out (by omega) (fun q e => by injection e with e; omega)⟩
  have h := HOW.out.one hk.out (by omega)
  have hle : ∀ {X : Option Addr} {xs : List Value}, NewL (gx + 2) wz X xs → NewL w.heap.size wz X xs := fun h => ⟨h.1, fun ad e => by have := h.2 ad e; have := HGX.out; omega⟩
  exact ⟨hle h.1, hle h.2.1, hle h.2.2.1, hle h.2.2.2.1, hle h.2.2.2.2.1, hle h.2.2.2.2.2⟩
/-- the machine that is fed, or the error -/
def feedR (m : Mc) (s : List UInt8) (fin : Bool) : Except Int Mc := if m.fin = true then .error 14 else if 4096 < m.inp.length ∨ 4096 - (m.inp.length : Int) < s.length then .error 6 else .ok { m with inp := m.inp ++ s, fin := fin }
def FeedPost (w : World) (x : Except Int Mc) (e : Ending) (w' : World) : Prop :=
  (match x with
    | .error c => e = .returned (.tuple #[.agg zeroML.toArray, .int .i64 c])
    | .ok m => ∃ a : MA, e = .returned (.tuple #[.agg (mcL a m).toArray, .int .i64 0]) ∧ MAt w' w'.heap.size a m ∧ McOk m) ∧ Below w.heap.size w w'
set_option maxRecDepth 100000 in
set_option maxHeartbeats 4000000 in
theorem feed_any (w : World) (a : MA) (m : Mc) (s : List UInt8) (fin : Bool) (hm : McOk m) (hprl : m.procs.length ≤ 4294967296) (hpil : m.pipes.length ≤ 1099511627776) (hil : m.inp.length ≤ 1099511627776) (hA : MAt w w.heap.size a m) :
    Calls Tryz.prog 24 #[.agg (mcL a m).toArray, S s, .bool fin] w (FeedPost w (feedR m s fin)) := by
  have hs0 := (Whole.made w 30 (mcL a m).toArray).block (.cells #[.int .u64 0, .int .i64 0, .int .i64 0, .int .i64 0, .slice none 0 0, .slice none 0 0, .int .i64 0, S [], .slice none 0 0, .int .i64 0, S [], .bool false, .int .u64 0, .slice none 0 0, .slice none 0 0, .int .i64 0, .slice none 0 0] 30)
  have hs1 := Whole.made (w.alloc (.cells (mcL a m).toArray 30)) 30 #[.int .u64 0, .int .i64 0, .int .i64 0, .int .i64 0, .slice none 0 0, .slice none 0 0, .int .i64 0, S [], .slice none 0 0, .int .i64 0, S [], .bool false, .int .u64 0, .slice none 0 0, .slice none 0 0, .int .i64 0, .slice none 0 0]
  rw [show (w.alloc (.cells (mcL a m).toArray 30)).heap.size = w.heap.size + 1 by simp] at hs1
  have hb : Below w.heap.size w ((w.alloc (.cells (mcL a m).toArray 30)).alloc (.cells #[.int .u64 0, .int .i64 0, .int .i64 0, .int .i64 0, .slice none 0 0, .slice none 0 0, .int .i64 0, S [], .slice none 0 0, .int .i64 0, S [], .bool false, .int .u64 0, .slice none 0 0, .slice none 0 0, .int .i64 0, .slice none 0 0] 30)) := ((Below.refl _ _).alloc (by first | exact Nat.le_refl _ | simp | (simp; omega)) _).alloc (by first | exact Nat.le_refl _ | simp | (simp; omega)) _
  go_enter Tryz.func24, Tryz.ntmps24
  go_upto_region 1 with (fail)
  change Code.wp _ _ _ _ ((w.alloc (.cells (mcL a m).toArray 30)).alloc (.cells #[.int .u64 0, .int .i64 0, .int .i64 0, .int .i64 0, .slice none 0 0, .slice none 0 0, .int .i64 0, S [], .slice none 0 0, .int .i64 0, S [], .bool false, .int .u64 0, .slice none 0 0, .slice none 0 0, .int .i64 0, .slice none 0 0] 30))
  generalize ((w.alloc (.cells (mcL a m).toArray 30)).alloc (.cells #[.int .u64 0, .int .i64 0, .int .i64 0, .int .i64 0, .slice none 0 0, .slice none 0 0, .int .i64 0, S [], .slice none 0 0, .int .i64 0, S [], .bool false, .int .u64 0, .slice none 0 0, .slice none 0 0, .int .i64 0, .slice none 0 0] 30)) = w1 at *
  generalize hgx : w.heap.size = gx at *
  have HGX := Lib.hid hgx
  have HS0 := Lib.hid hs0
  have HS1 := Lib.hid hs1
  have HW := Lib.hid hb
  have hgl : gx + 1 < w1.heap.size := hs1.lt
  clear hgx hb hs0 hs1
  have HZ1 : Hid (Whole w1 (gx + 1) 30 zeroML.toArray) := Lib.hid HS1.out
  clear HS1
  have HA : Hid (MAt w1 gx a m) := Lib.hid (hA.below HW.out)
  have HM := Lib.hid hm
  clear hA
  have c11 : w1.cell? ⟨gx, 11, none⟩ = some (.bool m.fin) := HS0.out.cell 11
  have c10 : w1.cell? ⟨gx, 10, none⟩ = some (S m.inp) := HS0.out.cell 10
  have hgl0 : gx < w1.heap.size := by omega
  cases hfin : m.fin with
  | true =>
    rw [hfin] at c11
    have HQ : Hid (feedR m s fin = .error 14) := Lib.hid (by unfold feedR; rw [if_pos hfin])
    clear hfin c10
    go_wp2_with (refine wpList_store_all rfl 30 (.tmp 6) (.tmp 10) rfl rfl (gx + 1) rfl zeroML rfl Tryz.sizeMc zeroML 30 HZ1.out rfl (mcL_one _ _) ?_; intro wz hw hk)
    refine bodyPost_ret (v := .tuple #[.agg zeroML.toArray, .int .i64 14]) (results_cell_tmp rfl _ _ (gx + 1) 30 _ _ (0, 0) _ rfl rfl hw.out Tryz.underlying30 rfl Tryz.sizeMc) rfl ?_
    unfold FeedPost
    rw [HQ.out]
    exact ⟨rfl, by rw [HGX.out]; exact HW.out.grown hk.out (by omega) (fun q e => by injection e with e; omega)⟩
  | false =>
    rw [hfin] at c11
    have HFN := Lib.hid hfin
    clear hfin
    by_cases h1 : 4096 < m.inp.length
    · have HQ : Hid (feedR m s fin = .error 6) := Lib.hid (by unfold feedR; rw [if_neg (by rw [HFN.out]; decide), if_pos (.inl h1)])
      have d1 : decide ((4096 : Int) < (m.inp.length : Int)) = true := decide_eq_true (by omega)
      have d1' : decide (4096 < m.inp.length) = true := decide_eq_true h1
      go_wp2_with (refine wpList_store_all rfl 30 (.tmp 6) (.tmp 24) rfl rfl (gx + 1) rfl zeroML rfl Tryz.sizeMc zeroML 30 HZ1.out rfl (mcL_one _ _) ?_; intro wz hw hk)
      refine bodyPost_ret (v := .tuple #[.agg zeroML.toArray, .int .i64 6]) (results_cell_tmp rfl _ _ (gx + 1) 30 _ _ (0, 0) _ rfl rfl hw.out Tryz.underlying30 rfl Tryz.sizeMc) rfl ?_
      unfold FeedPost
      rw [HQ.out]
      exact ⟨rfl, by rw [HGX.out]; exact HW.out.grown hk.out (by omega) (fun q e => by injection e with e; omega)⟩
    · have d1 : decide ((4096 : Int) < (m.inp.length : Int)) = false := decide_eq_false (by omega)
      have d1' : decide (4096 < m.inp.length) = false := decide_eq_false h1
      have mw : IntKind.i64.wrap (4096 - (m.inp.length : Int)) = 4096 - (m.inp.length : Int) := by rw [IntKind.wrap_i64]; omega
      by_cases h2 : 4096 - (m.inp.length : Int) < s.length
      · have HQ : Hid (feedR m s fin = .error 6) := Lib.hid (by unfold feedR; rw [if_neg (by rw [HFN.out]; decide), if_pos (.inr h2)])
        have d2 : decide (4096 - (m.inp.length : Int) < (s.length : Int)) = true := decide_eq_true h2
        go_wp2_with (refine wpList_store_all rfl 30 (.tmp 6) (.tmp 24) rfl rfl (gx + 1) rfl zeroML rfl Tryz.sizeMc zeroML 30 HZ1.out rfl (mcL_one _ _) ?_; intro wz hw hk)
        refine bodyPost_ret (v := .tuple #[.agg zeroML.toArray, .int .i64 6]) (results_cell_tmp rfl _ _ (gx + 1) 30 _ _ (0, 0) _ rfl rfl hw.out Tryz.underlying30 rfl Tryz.sizeMc) rfl ?_
        unfold FeedPost
        rw [HQ.out]
        exact ⟨rfl, by rw [HGX.out]; exact HW.out.grown hk.out (by omega) (fun q e => by injection e with e; omega)⟩
      · have HQ : Hid (feedR m s fin = .ok ({ m with inp := m.inp ++ s, fin := fin } : Mc)) := Lib.hid (by unfold feedR; rw [if_neg (by rw [HFN.out]; decide), if_neg (by omega)])
        have d2 : decide (4096 - (m.inp.length : Int) < (s.length : Int)) = false := decide_eq_false h2
        go_upto_region 5 with (fail)
        clear d1 d1' d2 mw c10 c11
        have CC := Lib.hid (copied_any w1 a m hm hprl hpil (HA.out.wide (by omega)))
        have LD := Lib.hid HS0.out.reads
        have MI : Hid ((Tryz.prog.info? 30).map (·.size) = some (mcL a m).length) := Lib.hid (by rw [mcL_length]; exact Tryz.sizeMc)
        go_wp2_with (refine wpList_load_at rfl 30 (.tmp 3) rfl ⟨gx, 0, none⟩ rfl (mcL a m) _ LD.out Tryz.underlying30 rfl MI.out ?_)
        refine CC.out.mono ?_
        rintro e w2 ⟨⟨a', rfl, hown, hcap⟩, hb2⟩
        have HB2 := Lib.hid (HS0.out.below hb2 (by omega))
        have HZ2 := Lib.hid (HZ1.out.below hb2 (by omega))
        have HV2 := Lib.hid (HW.out.trans (hb2.mono (by omega)))
        have HO2 := Lib.hid hown
        have HC2 := Lib.hid hcap
        have hz2 := hb2.size
        clear hown hcap hb2 CC LD
        have MI2 : Hid ((Tryz.prog.info? 30).map (·.size) = some (mcL a' m).length) := Lib.hid (by rw [mcL_length]; exact Tryz.sizeMc)
        go_upto_region 6 with (refine wpList_store_all rfl 30 (.tmp 3) (.tmp 26) rfl rfl gx rfl (mcL a' m) rfl MI2.out (mcL a m) 30 HB2.out rfl (mcL_one _ _) ?_; intro w3 hw3 hk3)
        have HB3 := hw3
        have HZ3 := Lib.hid (HZ2.out.other hk3.out (by intro e; injection e with e; omega))
        have HV3 := Lib.hid (HV2.out.grown hk3.out (by omega) (fun q e => by injection e with e; omega))
        have HO3 := Lib.hid (HO2.out.one hk3.out hgl0)
        have hz3 : w2.heap.size ≤ w3.heap.size := hk3.out.size
        have c10 : w3.cell? ⟨gx, 10, none⟩ = some (S m.inp) := HB3.out.cell 10
        have y10 : w3.frozen? ⟨gx, 10, none⟩ = false := HB3.out.free 10
        have HB4 : Hid (Whole (w3.setCell ⟨gx, 10, none⟩ (S (m.inp ++ s))) gx 30 (mcL a' ({ m with inp := m.inp ++ s } : Mc)).toArray) := Lib.hid (HB3.out.set 10 (S (m.inp ++ s)))
        have c11 : (w3.setCell ⟨gx, 10, none⟩ (S (m.inp ++ s))).cell? ⟨gx, 11, none⟩ = some (.bool m.fin) := HB4.out.cell 11
        have y11 : (w3.setCell ⟨gx, 10, none⟩ (S (m.inp ++ s))).frozen? ⟨gx, 11, none⟩ = false := HB4.out.free 11
        have HB5 : Hid (Whole ((w3.setCell ⟨gx, 10, none⟩ (S (m.inp ++ s))).setCell ⟨gx, 11, none⟩ (.bool fin)) gx 30 (mcL a' ({ m with inp := m.inp ++ s, fin := fin } : Mc)).toArray) := Lib.hid (HB4.out.set 11 (.bool fin))
        have HZ5 := Lib.hid ((HZ3.out.far (p := ⟨gx, 10, none⟩) (by show gx + 1 ≠ gx; omega) (S (m.inp ++ s))).far (p := ⟨gx, 11, none⟩) (by show gx + 1 ≠ gx; omega) (.bool fin))
        have HV5 := Lib.hid ((HV3.out.setCell (p := ⟨gx, 10, none⟩) (Nat.le_refl _) (S (m.inp ++ s))).setCell (p := ⟨gx, 11, none⟩) (Nat.le_refl _) (.bool fin))
        have HO5 := Lib.hid ((HO3.out.one (grown_setK w3 gx 10 (S (m.inp ++ s))) hgl0).one (grown_setK _ gx 11 (.bool fin)) hgl0)
        have hz5 : w3.heap.size ≤ ((w3.setCell ⟨gx, 10, none⟩ (S (m.inp ++ s))).setCell ⟨gx, 11, none⟩ (.bool fin)).heap.size := by simp [World.setCell]
        go_upto_region 8 with (fail)
        clear c10 y10 c11 y11 HB3 HB4 HB2 HZ2 HZ3 HV2 HV3 HO2 HO3 hw3 hk3
        generalize ((w3.setCell ⟨gx, 10, none⟩ (S (m.inp ++ s))).setCell ⟨gx, 11, none⟩ (.bool fin)) = w5 at *
        have HM' : Hid (McOk ({ m with inp := m.inp ++ s, fin := fin } : Mc)) := Lib.hid ⟨hm.clock, hm.quantum, hm.cur, hm.left, hm.next, hm.newPipe, hm.told, hm.dleft, hm.procs, hm.pipes, hm.pend, hm.dirty, hm.sizes⟩
        have HO6 : Hid (OwnM w1.heap.size w5 a' ({ m with inp := m.inp ++ s, fin := fin } : Mc)) := Lib.hid HO5.out
        have HC6 : Hid (CapM a' ({ m with inp := m.inp ++ s, fin := fin } : Mc)) := Lib.hid HC2.out
        clear HO5 HC2
        generalize ({ m with inp := m.inp ++ s, fin := fin } : Mc) = m' at *
        have LD5 := Lib.hid HB5.out.reads
        have MI5 : Hid ((Tryz.prog.info? 30).map (·.size) = some (mcL a' m').length) := Lib.hid (by rw [mcL_length]; exact Tryz.sizeMc)
        go_wp2_with (first
          | (refine wpList_load_at rfl 30 (.tmp 3) rfl ⟨gx, 0, none⟩ rfl (mcL a' m') _ LD5.out Tryz.underlying30 rfl MI5.out ?_)
          | (refine wpList_store_all rfl 30 (.tmp 6) (.tmp 34) rfl rfl (gx + 1) rfl (mcL a' m') rfl MI5.out zeroML 30 HZ5.out rfl (mcL_one _ _) ?_; intro wz hw hk))
        refine bodyPost_ret (v := .tuple #[.agg (mcL a' m').toArray, .int .i64 0]) (results_cell_tmp rfl _ _ (gx + 1) 30 _ _ (0, 0) _ rfl rfl hw.out Tryz.underlying30 rfl (by rw [List.size_toArray]; exact MI5.out)) rfl ?_
        unfold FeedPost
        rw [HQ.out]
        exact ⟨⟨a', rfl, (HO6.out.one hk.out hgl).at HC6.out, HM'.out⟩, by rw [HGX.out]; exact HV5.out.grown hk.out (by omega) (fun q e => by injection e with e; omega)⟩
end Go.Proofs.YtmmfcjkabpffeaaGreatDoor
