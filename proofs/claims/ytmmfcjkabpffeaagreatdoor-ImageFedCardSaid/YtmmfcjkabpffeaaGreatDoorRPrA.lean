/-
  Plain: whether a process may be, as the document says it. No program in sight.
-/
import Derived.Test.YtmmfcjkabpffeaaGreatDoorRChkA
namespace Go.Proofs.YtmmfcjkabpffeaaGreatDoor
open Go.RowKit

def rh1 (m : Mc) (p : Pr) : Bool := decide (1 ≤ p.pid) && decide (p.pid < m.next) && (p.state == 1 || p.state == 2 || p.state == 3) && p.regs.getD 0 0 == 0
def rh2 (m : Mc) (p : Pr) : Bool := livesAt m p.parent || (p.state != 3 && p.parent == 0)
def rh3 (p : Pr) : Bool := (if p.state = 2 then p.why != 0 else p.why == 0) && decide (0 ≤ p.why) && decide (p.why ≤ 5) && (p.state == 2 || p.n == 0) && (p.state == 3 || p.code == 0)
def rpageB (m : Mc) (p : Pr) (g : Pg) : Bool :=
  if g.is = true then p.state != 3 && decide (0 ≤ g.frame) && decide (g.frame < (m.frames.length : Int)) && usersL m.procs g.frame == 1 else !g.wr && g.frame == 0
def rfB (m : Mc) (p : Pr) (f : Fl) : Bool := rfdB m f && (p.state != 3 || f.kind == 0)
def rprocB (m : Mc) (p : Pr) : Bool := rh1 m p && rh2 m p && rh3 p && p.space.all (rpageB m p) && p.fds.all (rfB m p)
theorem rproc_1 {m : Mc} {p : Pr} (h : rh1 m p = false) : false = rprocB m p := by unfold rprocB; rw [h]; rfl
theorem rproc_2 {m : Mc} {p : Pr} (h : rh2 m p = false) : false = rprocB m p := by unfold rprocB; rw [h]; simp
theorem rproc_3 {m : Mc} {p : Pr} (h : rh3 p = false) : false = rprocB m p := by unfold rprocB; rw [h]; simp
theorem rproc_4 {m : Mc} {p : Pr} (h : p.space.all (rpageB m p) = false) : false = rprocB m p := by unfold rprocB; rw [h]; simp
theorem rproc_5 {m : Mc} {p : Pr} (h : p.fds.all (rfB m p) = false) : false = rprocB m p := by unfold rprocB; rw [h]; simp
theorem rproc_ok {m : Mc} {p : Pr} (h1 : rh1 m p = true) (h2 : rh2 m p = true) (h3 : rh3 p = true) (h4 : p.space.all (rpageB m p) = true) (h5 : p.fds.all (rfB m p) = true) : true = rprocB m p := by
  unfold rprocB; rw [h1, h2, h3, h4, h5]; rfl
end Go.Proofs.YtmmfcjkabpffeaaGreatDoor
/-
  Plain: the two ways of saying which processes may be agree. No program in sight.
-/
namespace Go.Proofs.YtmmfcjkabpffeaaGreatDoor
open Go.RowKit

def pageQ (m : Mc) (p : Pr) (g : Pg) : Bool :=
  if g.is = true then p.state != 3 && decide (0 ≤ g.frame) && decide (g.frame < (m.frames.length : Int)) else !g.wr && g.frame == 0
theorem usedP_is {g : Pg} {s : List Pg} (h : g.is = true) : usedP (g :: s) = g.frame :: usedP s := by unfold usedP; simp [h]
theorem usedP_not {g : Pg} {s : List Pg} (h : g.is = false) : usedP (g :: s) = usedP s := by unfold usedP; simp [h]
theorem pagesR_iff (m : Mc) (p : Pr) : ∀ (s : List Pg) (used : List Int), pagesR m p used s = true ↔ (∀ g ∈ s, pageQ m p g = true) ∧ (∀ x ∈ usedP s, x ∉ used) ∧ (usedP s).Nodup
  | [], used => by simp [pagesR, usedP]
  | g :: s, used => by
    have ih := pagesR_iff m p s (addU used g)
    show (pageB m p used g && pagesR m p (addU used g) s) = true ↔ _
    rw [Bool.and_eq_true, ih]
    cases h : g.is with
    | true =>
      have e1 : pageB m p used g = (pageQ m p g && !used.contains g.frame) := by unfold pageB pageQ; rw [if_pos h, if_pos h]
      have e2 : addU used g = used ++ [g.frame] := by unfold addU; rw [if_pos h]
      rw [usedP_is h, e1, e2]
      simp only [Bool.and_eq_true, Bool.not_eq_true', List.mem_cons, List.nodup_cons, List.mem_append, List.not_mem_nil, or_false, not_or, forall_eq_or_imp]
      constructor
      · rintro ⟨⟨h1, h2⟩, h3, h4, h5⟩
        exact ⟨⟨h1, h3⟩, ⟨by simpa using h2, fun x hx => (h4 x hx).1⟩, fun hf => (h4 _ hf).2 rfl, h5⟩
      · rintro ⟨⟨h1, h3⟩, ⟨h2, h4⟩, h5, h6⟩
        exact ⟨⟨h1, by simpa using h2⟩, h3, fun x hx => ⟨h4 x hx, fun e => h5 (e ▸ hx)⟩, h6⟩
    | false =>
      have e1 : pageB m p used g = pageQ m p g := by unfold pageB pageQ; rw [if_neg (by simp [h]), if_neg (by simp [h])]
      have e2 : addU used g = used := by unfold addU; rw [if_neg (by simp [h])]
      rw [usedP_not h, e1, e2]
      simp only [List.mem_cons, forall_eq_or_imp]
      constructor
      · rintro ⟨h1, h2, h3⟩; exact ⟨⟨h1, h2⟩, h3⟩
      · rintro ⟨⟨h1, h2⟩, h3⟩; exact ⟨h1, h2, h3⟩
theorem usedR_eq : ∀ (s : List Pg) (u : List Int), usedR u s = u ++ usedP s
  | [], u => by simp [usedR, usedP]
  | g :: s, u => by
    show usedR (addU u g) s = _
    rw [usedR_eq s]
    cases h : g.is with
    | true => rw [usedP_is h]; unfold addU; rw [if_pos h]; simp
    | false => rw [usedP_not h]; unfold addU; rw [if_neg (by simp [h])]
def riseB : Int → List Pr → Bool
  | _, [] => true
  | last, p :: l => decide (last < p.pid) && riseB p.pid l
def qB (m : Mc) (p : Pr) : Bool := decide (p.pid < m.next) && fieldsB p && parentB m p && p.space.all (pageQ m p) && p.fds.all (fdB m p)
def allU (l : List Pr) : List Int := l.flatMap fun p => usedP p.space
theorem procsR_iff (m : Mc) : ∀ (l : List Pr) (last : Int) (used : List Int), procsR m last used l = true ↔ riseB last l = true ∧ (∀ p ∈ l, qB m p = true) ∧ (∀ x ∈ allU l, x ∉ used) ∧ (allU l).Nodup
  | [], last, used => by simp [procsR, riseB, allU]
  | p :: l, last, used => by
    have ih := procsR_iff m l p.pid (usedR used p.space)
    have hu : allU (p :: l) = usedP p.space ++ allU l := by unfold allU; simp
    show (headB m last p && pagesR m p used p.space && p.fds.all (fdB m p) && procsR m p.pid (usedR used p.space) l) = true ↔ (decide (last < p.pid) && riseB p.pid l) = true ∧ _
    rw [Bool.and_eq_true, ih, Bool.and_eq_true, Bool.and_eq_true, pagesR_iff, usedR_eq, hu, List.nodup_append]
    unfold headB
    simp only [Bool.and_eq_true, List.mem_cons, forall_eq_or_imp, List.mem_append, not_or, decide_eq_true_eq]
    have hq : qB m p = true ↔ p.pid < m.next ∧ fieldsB p = true ∧ parentB m p = true ∧ (∀ g ∈ p.space, pageQ m p g = true) ∧ p.fds.all (fdB m p) = true := by
      unfold qB
      simp only [Bool.and_eq_true, decide_eq_true_eq, List.all_eq_true, and_assoc]
    rw [hq]
    constructor
    · rintro ⟨⟨⟨⟨⟨⟨a1, a2⟩, a3⟩, a4⟩, a5, a6, a7⟩, a8⟩, b1, b2, b3, b4⟩
      refine ⟨⟨a1, b1⟩, ⟨⟨a2, a3, a4, a5, a8⟩, b2⟩, ?_, a7, b4, ?_⟩
      · rintro x (hx | hx)
        · exact a6 x hx
        · exact (b3 x hx).1
      · intro x hx y hy e
        subst e
        exact (b3 x hy).2 hx
    · rintro ⟨⟨a1, b1⟩, ⟨⟨a2, a3, a4, a5, a8⟩, b2⟩, c1, a7, b4, c2⟩
      exact ⟨⟨⟨⟨⟨⟨a1, a2⟩, a3⟩, a4⟩, a5, fun x hx => c1 x (.inl hx), a7⟩, a8⟩, b1, b2, fun x hx => ⟨c1 x (.inr hx), fun hy => c2 x hy x hx rfl⟩, b4⟩
theorem fd_same (m : Mc) (p : Pr) (f : Fl) : fdB m p f = rfB m p f := by
  obtain ⟨k, n, q⟩ := f
  unfold fdB rfB rfdB fileB
  by_cases h0 : k = 0
  · subst h0
    rw [Bool.eq_iff_iff]
    simp
  · rw [Bool.eq_iff_iff]
    by_cases h12 : k = 1 ∨ k = 2
    · simp [h0, h12]
      exact And.comm
    · by_cases h3 : k = 3
      · subst h3
        simp
        exact And.comm
      · by_cases h45 : k = 4 ∨ k = 5
        · simp [h0, h12, h3, h45]
          exact And.comm
        · simp [h0, h12, h3, h45]
theorem head_same (m : Mc) (p : Pr) (h : 1 ≤ p.pid) : (rh1 m p && rh2 m p && rh3 p) = (decide (p.pid < m.next) && fieldsB p && parentB m p) := by
  unfold rh1 rh2 rh3 fieldsB parentB livesAt livesB
  rw [Bool.eq_iff_iff]
  by_cases s1 : p.state = 1
  · simp [s1, h]
    constructor
    · rintro ⟨⟨⟨a, b⟩, c⟩, ⟨⟨⟨d, _⟩, _⟩, e⟩, f⟩; exact ⟨⟨a, ⟨b, d, e⟩, f⟩, c.symm⟩
    · rintro ⟨⟨a, ⟨b, d, e⟩, f⟩, c⟩; exact ⟨⟨⟨a, b⟩, c.symm⟩, ⟨⟨⟨d, by omega⟩, by omega⟩, e⟩, f⟩
  · by_cases s2 : p.state = 2
    · simp [s2, h]
      constructor
      · rintro ⟨⟨⟨a, b⟩, c⟩, ⟨⟨d1, d2⟩, d3⟩, f⟩; exact ⟨⟨a, ⟨b, by omega, d3⟩, f⟩, c.symm⟩
      · rintro ⟨⟨a, ⟨b, d1, d2⟩, f⟩, c⟩; exact ⟨⟨⟨a, b⟩, c.symm⟩, ⟨⟨by omega, by omega⟩, d2⟩, f⟩
    · by_cases s3 : p.state = 3
      · simp [s3, h]
        constructor
        · rintro ⟨⟨⟨a, b⟩, c⟩, ⟨⟨d, _⟩, _⟩, e⟩; exact ⟨⟨a, b, d, e⟩, c⟩
        · rintro ⟨⟨a, b, d, e⟩, c⟩; exact ⟨⟨⟨a, b⟩, c⟩, ⟨⟨d, by omega⟩, by omega⟩, e⟩
      · simp [s1, s2, s3]
def rprocsR (m : Mc) : Int → List Pr → Bool
  | _, [] => true
  | last, p :: l => decide (last < p.pid) && rprocB m p && rprocsR m p.pid l
theorem rprocsR_iff (m : Mc) : ∀ (l : List Pr) (last : Int), rprocsR m last l = true ↔ riseB last l = true ∧ ∀ p ∈ l, rprocB m p = true
  | [], last => by simp [rprocsR, riseB]
  | p :: l, last => by
    have ih := rprocsR_iff m l p.pid
    show (decide (last < p.pid) && rprocB m p && rprocsR m p.pid l) = true ↔ (decide (last < p.pid) && riseB p.pid l) = true ∧ _
    simp only [Bool.and_eq_true, ih, List.mem_cons, forall_eq_or_imp]
    constructor
    · rintro ⟨⟨a, b⟩, c, d⟩; exact ⟨⟨a, c⟩, b, d⟩
    · rintro ⟨⟨a, c⟩, b, d⟩; exact ⟨⟨a, b⟩, c, d⟩
theorem rise_pos : ∀ {l : List Pr} {last : Int}, 0 ≤ last → riseB last l = true → ∀ p ∈ l, 1 ≤ p.pid
  | [], _, _, _, p, hp => by simp at hp
  | q :: l, last, h0, h, p, hp => by
    have h' : (decide (last < q.pid) && riseB q.pid l) = true := h
    rw [Bool.and_eq_true, decide_eq_true_eq] at h'
    rcases List.mem_cons.1 hp with rfl | hp
    · omega
    · exact rise_pos (by omega) h'.2 p hp
theorem usersL_eq (l : List Pr) (f : Int) : usersL l f = (allU l).count f := rfl
theorem mem_allU {l : List Pr} {p : Pr} {g : Pg} (hp : p ∈ l) (hg : g ∈ p.space) (h : g.is = true) : g.frame ∈ allU l := by
  unfold allU usedP
  rw [List.mem_flatMap]
  exact ⟨p, hp, List.mem_map.2 ⟨g, List.mem_filter.2 ⟨hg, h⟩, rfl⟩⟩
theorem allU_mem {l : List Pr} {x : Int} (h : x ∈ allU l) : ∃ p ∈ l, ∃ g ∈ p.space, g.is = true ∧ g.frame = x := by
  unfold allU usedP at h
  rw [List.mem_flatMap] at h
  obtain ⟨p, hp, h⟩ := h
  obtain ⟨g, hg, rfl⟩ := List.mem_map.1 h
  obtain ⟨hg1, hg2⟩ := List.mem_filter.1 hg
  exact ⟨p, hp, g, hg1, hg2, rfl⟩
theorem rpage_eq (m : Mc) (p : Pr) (g : Pg) : rpageB m p g = (pageQ m p g && (!g.is || usersL m.procs g.frame == 1)) := by
  unfold rpageB pageQ
  cases h : g.is <;> simp
theorem rproc_eq (m : Mc) (p : Pr) (h : 1 ≤ p.pid) : rprocB m p = true ↔ qB m p = true ∧ ∀ g ∈ p.space, g.is = true → usersL m.procs g.frame = 1 := by
  have e1 := Bool.eq_iff_iff.1 (head_same m p h)
  have e2 : p.fds.all (rfB m p) = p.fds.all (fdB m p) := by
    congr 1
    funext f
    exact (fd_same m p f).symm
  unfold rprocB qB
  rw [e2]
  simp only [Bool.and_eq_true] at e1 ⊢
  rw [e1]
  simp only [List.all_eq_true, rpage_eq, Bool.and_eq_true, Bool.or_eq_true, Bool.not_eq_true', beq_iff_eq]
  constructor
  · rintro ⟨⟨a, b⟩, c⟩
    exact ⟨⟨⟨a, fun g hg => (b g hg).1⟩, c⟩, fun g hg hi => by
      rcases (b g hg).2 with h' | h'
      · rw [hi] at h'; cases h'
      · exact h'⟩
  · rintro ⟨⟨⟨a, b⟩, c⟩, d⟩
    exact ⟨⟨a, fun g hg => ⟨b g hg, by
      cases hi : g.is
      · exact .inl rfl
      · exact .inr (d g hg hi)⟩⟩, c⟩
theorem procs_same (m : Mc) : rprocsR m 0 m.procs = procsR m 0 [] m.procs := by
  rw [Bool.eq_iff_iff, rprocsR_iff, procsR_iff]
  constructor
  · rintro ⟨h1, h2⟩
    have hp := rise_pos (Int.le_refl 0) h1
    refine ⟨h1, fun p h => ((rproc_eq m p (hp p h)).1 (h2 p h)).1, fun x _ => by simp, List.nodup_iff_count.2 fun x => ?_⟩
    by_cases hx : x ∈ allU m.procs
    · obtain ⟨p, hpm, g, hg, hi, rfl⟩ := allU_mem hx
      have := ((rproc_eq m p (hp p hpm)).1 (h2 p hpm)).2 g hg hi
      rw [usersL_eq] at this
      omega
    · rw [List.count_eq_zero.2 hx]; omega
  · rintro ⟨h1, h2, _, h4⟩
    have hp := rise_pos (Int.le_refl 0) h1
    refine ⟨h1, fun p h => (rproc_eq m p (hp p h)).2 ⟨h2 p h, fun g hg hi => ?_⟩⟩
    rw [usersL_eq, h4.count, if_pos (mem_allU h hg hi)]
end Go.Proofs.YtmmfcjkabpffeaaGreatDoor
