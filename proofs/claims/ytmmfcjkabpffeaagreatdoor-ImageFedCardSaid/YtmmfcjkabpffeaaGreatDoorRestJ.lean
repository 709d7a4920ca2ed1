/-
  Plain: what a machine's rest, as bytes, tells of its processes. No program in sight.
-/
import Derived.Test.YtmmfcjkabpffeaaGreatDoorRestI
namespace Go.Proofs.YtmmfcjkabpffeaaGreatDoor
open Go.RowKit

theorem lenB_ne (n : Nat) : lenB n ≠ [] := by
  by_cases h : n < 128
  · rw [lenB_small h]; simp
  · rw [lenB_big h]; simp
theorem ofNat8_inj {n m : Nat} (hn : n < 256) (hm : m < 256) (h : UInt8.ofNat n = UInt8.ofNat m) : n = m := by
  have := congrArg UInt8.toNat h
  rw [UInt8.toNat_ofNat', UInt8.toNat_ofNat'] at this
  omega
theorem lenB_inj (n : Nat) : ∀ (m : Nat) (x y : List UInt8), lenB n ++ x = lenB m ++ y → n = m ∧ x = y := by
  induction n using Nat.strongRecOn with
  | ind n ih =>
    intro m x y h
    by_cases hn : n < 128
    · by_cases hm : m < 128
      · rw [lenB_small hn, lenB_small hm] at h
        injection h with h1 h2
        exact ⟨ofNat8_inj (by omega) (by omega) h1, h2⟩
      · rw [lenB_small hn, lenB_big hm] at h
        injection h with h1 h2
        have := ofNat8_inj (by omega) (by omega) h1
        omega
    · by_cases hm : m < 128
      · rw [lenB_big hn, lenB_small hm] at h
        injection h with h1 h2
        have := ofNat8_inj (by omega) (by omega) h1
        omega
      · rw [lenB_big hn, lenB_big hm] at h
        injection h with h1 h2
        have h3 := ofNat8_inj (by omega) (by omega) h1
        obtain ⟨h4, h5⟩ := ih (n / 128) (by omega) (m / 128) x y h2
        exact ⟨by omega, h5⟩
theorem rowB_inj : ∀ (a b : List (List UInt8)), rowB a = rowB b → a = b
  | [], [], _ => rfl
  | [], l :: ls, h => by
    rw [rowB_cons, rowB_nil, List.append_assoc] at h
    exact absurd (List.append_eq_nil_iff.1 h.symm).1 (lenB_ne _)
  | l :: ls, [], h => by
    rw [rowB_cons, rowB_nil, List.append_assoc] at h
    exact absurd (List.append_eq_nil_iff.1 h).1 (lenB_ne _)
  | l :: ls, m :: ms, h => by
    rw [rowB_cons, rowB_cons, List.append_assoc, List.append_assoc] at h
    obtain ⟨h1, h2⟩ := lenB_inj _ _ _ _ h
    obtain ⟨h3, h4⟩ := List.append_inj h2 h1
    rw [h3, rowB_inj ls ms h4]
theorem getF_putL (n : Nat) : ∀ k, getF (putL n k) = n % 256 ^ k
  | 0 => by simp [putL, getF, Nat.mod_one]
  | k + 1 => by
    rw [putL_succ, getF_snoc, putL_length, getF_putL n k, Nat.pow_succ, Nat.mod_mul]
    rw [UInt8.toNat_ofNat', Nat.mod_eq_of_lt (Nat.mod_lt _ (by decide))]
theorem putL_inj {n m k : Nat} (hn : n < 256 ^ k) (hm : m < 256 ^ k) (h : putL n k = putL m k) : n = m := by
  have := congrArg getF h
  rw [getF_putL, getF_putL, Nat.mod_eq_of_lt hn, Nat.mod_eq_of_lt hm] at this
  exact this
theorem itoa_inj {a b : Int} (ha : inI a) (hb : inI b) (h : Lib.itoa a = Lib.itoa b) : a = b := by
  have h1 := intP_itoa ha
  rw [h, intP_itoa hb] at h1
  injection h1 with h1
  exact h1.symm
theorem flat_inj {α β : Type} {f : α → List β} {n : Nat} (hn : ∀ x, (f x).length = n) : ∀ {l l' : List α}, l.length = l'.length → l.flatMap f = l'.flatMap f → (∀ x ∈ l, ∀ y ∈ l', f x = f y → x = y) → l = l'
  | [], [], _, _, _ => rfl
  | [], y :: l', h, _, _ => by simp at h
  | x :: l, [], h, _, _ => by simp at h
  | x :: l, y :: l', h, e, hi => by
    rw [List.flatMap_cons, List.flatMap_cons] at e
    obtain ⟨e1, e2⟩ := List.append_inj e (by rw [hn, hn])
    rw [hi x (by simp) y (by simp) e1, flat_inj hn (by simpa using h) e2 fun u hu v hv => hi u (by simp [hu]) v (by simp [hv])]
theorem regB_inj {a b : Int} (ha : inU32 a) (hb : inU32 b) (h : regB a = regB b) : a = b := by
  unfold inU32 at ha hb
  have := putL_inj (k := 4) (by omega) (by omega) h
  omega
theorem cpuB_inj {p q : Pr} (hp : PrOk p) (hq : PrOk q) (h : cpuB p = cpuB q) : p.regs = q.regs ∧ p.pc = q.pc := by
  unfold cpuB at h
  obtain ⟨h1, h2⟩ := List.append_inj h (by rw [regs_length, regs_length, hp.regs, hq.regs])
  exact ⟨flat_inj (f := regB) (n := 4) (fun x => putL_length _ _) (by rw [hp.regs, hq.regs]) h1 fun x hx y hy => regB_inj (hp.reg x hx) (hq.reg y hy), regB_inj hp.pc hq.pc h2⟩
theorem byteOf_inj {a b : Int} (ha : 0 ≤ a ∧ a < 256) (hb : 0 ≤ b ∧ b < 256) (h : byteOf a = byteOf b) : a = b := by
  unfold byteOf at h
  have := ofNat8_inj (by omega) (by omega) h
  omega
theorem u64Of_inj {a b : Int} (ha : inJ8 a) (hb : inJ8 b) (h : u64Of a = u64Of b) : a = b := by
  unfold u64Of at h; unfold inJ8 at ha hb
  omega
theorem u64Of_lt (a : Int) : u64Of a < 256 ^ 8 := by unfold u64Of; omega
theorem pgB_inj {g k : Pg} (hg : 0 ≤ g.frame ∧ g.frame < 256 ∧ (g.is = false → g.wr = false ∧ g.frame = 0)) (hk : 0 ≤ k.frame ∧ k.frame < 256 ∧ (k.is = false → k.wr = false ∧ k.frame = 0)) (h : pgB g = pgB k) : g = k := by
  obtain ⟨gi, gw, gf⟩ := g
  obtain ⟨ki, kw, kf⟩ := k
  obtain ⟨g1, g2, g3⟩ := hg
  obtain ⟨k1, k2, k3⟩ := hk
  dsimp only at *
  unfold pgB at h
  have H := fun e => byteOf_inj ⟨g1, g2⟩ ⟨k1, k2⟩ e
  cases gi <;> cases ki
  · obtain ⟨rfl, rfl⟩ := g3 rfl
    obtain ⟨rfl, rfl⟩ := k3 rfl
    rfl
  · cases kw <;> simp at h
  · cases gw <;> simp at h
  · cases gw <;> cases kw <;> simp at h <;> first | rw [H h] | skip
theorem flB_inj {f k : Fl} (hf : 0 ≤ f.kind ∧ f.kind < 256) (hk : 0 ≤ k.kind ∧ k.kind < 256) (jf : inJ8 f.kind ∧ inJ8 f.n ∧ inJ8 f.pos) (jk : inJ8 k.kind ∧ inJ8 k.n ∧ inJ8 k.pos) (h : flB f = flB k) : f = k := by
  obtain ⟨a, b, c⟩ := f
  obtain ⟨a', b', c'⟩ := k
  unfold flB at h
  dsimp only at *
  injection h with h1 h2
  obtain ⟨h3, h4⟩ := List.append_inj h2 (by rw [putL_length, putL_length])
  have e1 := byteOf_inj hf hk h1
  have e2 := u64Of_inj jf.2.1 jk.2.1 (putL_inj (u64Of_lt _) (u64Of_lt _) h3)
  have e3 := u64Of_inj jf.2.2 jk.2.2 (putL_inj (u64Of_lt _) (u64Of_lt _) h4)
  rw [e1, e2, e3]
theorem flagL_inj {a b : Bool} (h : flagL a = flagL b) : a = b := by cases a <;> cases b <;> first | rfl | (exact absurd h (by decide))
/-- a process's row tells it in all -/
theorem procRow_inj {p q : Pr} (hp : PrOk p) (hq : PrOk q) (sp : PrS p) (sq : PrS q) (h : procRow p = procRow q) : p = q := by
  have h := rowB_inj _ _ h
  unfold procL at h
  simp only [List.cons.injEq, and_true] at h
  obtain ⟨h1, h2, h3, h4, h5, h6, h7, h8, h9, h10⟩ := h
  obtain ⟨r1, r2⟩ := cpuB_inj hp hq h4
  have e1 := itoa_inj hp.pid hq.pid h1
  have e2 := itoa_inj hp.parent hq.parent h2
  have e3 := itoa_inj hp.state hq.state h3
  have e5 := flat_inj pgB_length (by rw [hp.space, hq.space]) h5 fun x hx y hy => pgB_inj (sp.space x hx) (sq.space y hy)
  have e6 := flat_inj flB_length (by rw [hp.fds, hq.fds]) h6 fun x hx y hy => flB_inj (sp.fds x hx) (sq.fds y hy) (hp.fd x hx) (hq.fd y hy)
  have e7 := flagL_inj h7
  have e9 := itoa_inj hp.why hq.why h9
  have c1 := hp.code; have c2 := hq.code; have n1 := hp.n; have n2 := hq.n
  unfold inU32 at c1 c2; unfold inU64 at n1 n2
  have e8 := putL_inj (k := 4) (by omega) (by omega) h8
  have e10 := putL_inj (k := 8) (by omega) (by omega) h10
  obtain ⟨a1, a2, a3, a4, a5, a6, a7, a8, a9, a10, a11⟩ := p
  obtain ⟨b1, b2, b3, b4, b5, b6, b7, b8, b9, b10, b11⟩ := q
  dsimp only at *
  rw [e1, e2, e3, r1, r2, e5, e6, e7, e9, show a9 = b9 by omega, show a11 = b11 by omega]
theorem procs_inj : ∀ {l k : List Pr}, (∀ p ∈ l, PrOk p ∧ PrS p) → (∀ p ∈ k, PrOk p ∧ PrS p) → l.map procRow = k.map procRow → l = k
  | [], [], _, _, _ => rfl
  | [], y :: k, _, _, h => by simp at h
  | x :: l, [], _, _, h => by simp at h
  | x :: l, y :: k, hl, hk, h => by
    simp only [List.map_cons, List.cons.injEq] at h
    obtain ⟨a, b⟩ := hl x (by simp)
    obtain ⟨c, d⟩ := hk y (by simp)
    rw [procRow_inj a c b d h.1, procs_inj (fun p hp => hl p (by simp [hp])) (fun p hp => hk p (by simp [hp])) h.2]
/-- two machines that may be, with the same rest, have the same processes -/
theorem rest_procs {m n : Mc} (hm : McOk m) (hn : McOk n) (cm : checkE m = 0) (cn : checkE n = 0) (h : restB m = restB n) : m.procs = n.procs := by
  have h := rowB_inj _ _ h
  unfold restL at h
  simp only [List.cons.injEq, and_true] at h
  have h := rowB_inj _ _ h.2.2.2.2.2.2.2.2.2.2.2.2.2.2.2
  obtain ⟨_, h2, h3, _⟩ := checkE_zero cm
  obtain ⟨_, k2, k3, _⟩ := checkE_zero cn
  exact procs_inj (fun p hp => ⟨hm.procs p hp, (procs_zero (frames_zero h2).1 h3).2 p hp⟩) (fun p hp => ⟨hn.procs p hp, (procs_zero (frames_zero k2).1 k3).2 p hp⟩) h
end Go.Proofs.YtmmfcjkabpffeaaGreatDoor
