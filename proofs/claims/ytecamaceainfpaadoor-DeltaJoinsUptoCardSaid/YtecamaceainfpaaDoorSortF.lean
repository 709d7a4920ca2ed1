/-
  Walk: slices.stableCmpFunc, slices.SortStableFunc at writes.
-/
import Derived.Test.YtecamaceainfpaaDoorSortE
namespace Go.Proofs.YtecamaceainfpaaDoor
open Go.RowKit

/-- rows of one length, the last one no longer -/
def Blk (s : Nat) : List (List Wr) → Prop
  | [] => True
  | [c] => c.length ≤ s
  | c :: d :: r => c.length = s ∧ Blk s (d :: r)
theorem Blk.tail {s : Nat} {c : List Wr} {r : List (List Wr)} (h : Blk s (c :: r)) : Blk s r := by
  cases r with
  | nil => trivial
  | cons d r => exact h.2
theorem Blk.snoc {s : Nat} {l : List Wr} (hl : l.length ≤ s) : ∀ {done : List (List Wr)}, (∀ c ∈ done, c.length = s) → Blk s (done ++ [l])
  | [], _ => hl
  | [c], h => ⟨h c (by simp), hl⟩
  | c :: d :: r, h => ⟨h c (by simp), Blk.snoc hl (done := d :: r) fun x hx => h x (List.mem_cons_of_mem _ hx)⟩
theorem Blk.two {s : Nat} {todo : List (List Wr)} (h : Blk s todo) (hs : 0 < s) (hl : 2 * s ≤ todo.flatten.length) : ∃ x y r, todo = x :: y :: r ∧ x.length = s ∧ y.length = s ∧ Blk s r := by
  match todo, h, hl with
  | [], _, hl => simp at hl; omega
  | [c], h, hl =>
    have h' : c.length ≤ s := h
    simp at hl; omega
  | [c, d], h, hl =>
    have h1 : c.length = s := h.1
    have h2 : d.length ≤ s := h.2
    simp at hl
    exact ⟨c, d, [], rfl, h1, by omega, trivial⟩
  | c :: d :: e :: r, h, _ => exact ⟨c, d, e :: r, rfl, h.1, h.2.1, h.2.2⟩
theorem Blk.pair {s : Nat} {todo : List (List Wr)} (h : Blk s todo) (h1 : s < todo.flatten.length) (h2 : todo.flatten.length < 2 * s) : ∃ x y, todo = [x, y] ∧ x.length = s ∧ 0 < y.length := by
  match todo, h, h1, h2 with
  | [], _, h1, _ => simp at h1
  | [c], h, h1, _ =>
    have h' : c.length ≤ s := h
    simp at h1; omega
  | [c, d], h, h1, h2 =>
    have k1 : c.length = s := h.1
    simp at h1
    exact ⟨c, d, rfl, k1, by omega⟩
  | c :: d :: e :: r, h, _, h2 =>
    have k1 : c.length = s := h.1
    have k2 : d.length = s := h.2.1
    simp at h2; omega
theorem Blk.small {s : Nat} {todo : List (List Wr)} (h : Blk s todo) (h1 : todo.flatten.length ≤ s) (hs : ∀ c ∈ todo, Srt c) : Srt todo.flatten := by
  match todo, h, h1, hs with
  | [], _, _, _ => exact Srt.nil
  | [c], _, _, hs => simpa using hs c (by simp)
  | c :: d :: r, h, h1, hs =>
    have k1 : c.length = s := h.1
    rw [List.flatten_cons, List.length_append] at h1
    have e : (d :: r).flatten = [] := List.eq_nil_of_length_eq_zero (by omega)
    rw [List.flatten_cons, e, List.append_nil]
    exact hs c (by simp)
/-- sorted rows of one length -/
def Runs (ws : List Wr) (s : Nat) (ls : List Wr) : Prop := StEq ws ls ∧ ∃ cs : List (List Wr), ls = cs.flatten ∧ Blk s cs ∧ ∀ c ∈ cs, Srt c
theorem Runs.done {ws ls : List Wr} {s : Nat} (h : Runs ws s ls) (hs : ws.length ≤ s) : StEq ws ls ∧ Srt ls := by
  obtain ⟨h1, cs, rfl, h2, h3⟩ := h
  exact ⟨h1, h2.small (by rw [h1.length]; exact hs) h3⟩
/-- the first pass: rows of twenty, a places done -/
def Pass1 (ws : List Wr) (a : Nat) (ls : List Wr) : Prop := StEq ws ls ∧ ∃ (done : List (List Wr)) (R : List Wr), ls = done.flatten ++ R ∧ done.flatten.length = a ∧ ∀ c ∈ done, c.length = 20 ∧ Srt c
theorem Pass1.start (ws : List Wr) : Pass1 ws 0 ws := ⟨StEq.refl _, [], ws, rfl, rfl, fun c hc => by simp at hc⟩
/-- what a pass of merges comes to: rows of twice the length, a places done -/
def Pass2 (ws : List Wr) (s a : Nat) (ls : List Wr) : Prop := StEq ws ls ∧ ∃ done todo : List (List Wr), ls = done.flatten ++ todo.flatten ∧ done.flatten.length = a ∧ (∀ c ∈ done, c.length = 2 * s ∧ Srt c) ∧ Blk s todo ∧ ∀ c ∈ todo, Srt c
theorem Pass2.start {ws ls : List Wr} {s : Nat} (h : Runs ws s ls) : Pass2 ws s 0 ls := by
  obtain ⟨h1, cs, rfl, h2, h3⟩ := h
  exact ⟨h1, [], cs, rfl, rfl, fun c hc => by simp at hc, h2, h3⟩
theorem Pass2.end_ {ws ls : List Wr} {s a : Nat} (h : Pass2 ws s a ls) (hl : ws.length ≤ a + s) : Runs ws (2 * s) ls := by
  obtain ⟨h1, done, todo, rfl, h2, h3, h4, h5⟩ := h
  have hlen := h1.length
  rw [List.length_append] at hlen
  refine ⟨h1, done ++ [todo.flatten], by simp, Blk.snoc (by omega) fun c hc => (h3 c hc).1, fun c hc => ?_⟩
  rcases List.mem_append.1 hc with hc | hc
  · exact (h3 c hc).2
  · simp only [List.mem_singleton] at hc; subst hc
    exact h4.small (by omega) h5
section
variable (base g cap N : Nat) (hl : N ≤ 1099511627776)
include hl
abbrev cmpFn : Value := .func (.func 75) #[] #[]
theorem pass1_step (w : World) (ws ls : List Wr) (a : Nat) (hws : ws.length = N) (h : Pass1 ws a ls) (hr : Row w base g cap ls) (ha : a + 20 ≤ N) :
    Calls Tryd.prog 115 #[.slice (some ⟨g, 0, none⟩) N cap, .int .i64 (a : Int), .int .i64 ((a + 20 : Nat) : Int), cmpFn] w (SortPost w base g cap (Pass1 ws (a + 20))) := by
  obtain ⟨h1, done, R, rfl, h2, h3⟩ := h
  have hlen := h1.length
  rw [List.length_append] at hlen
  obtain ⟨X, B, rfl, hx, hb⟩ := cut_at R 20 (by omega)
  rw [List.length_append] at hlen hb
  refine (insertion_any w base g cap N done.flatten X B a (a + 20) (by simpa using hr) (by omega) h2.symm (by omega) hl).mono fun e w' h => ⟨h.1, ?_, h.2.2⟩
  obtain ⟨ls, ⟨Q, rfl, q1, q2⟩, hr'⟩ := h.2.1
  refine ⟨_, ⟨?_, done ++ [Q], B, by simp, ?_, fun c hc => ?_⟩, hr'⟩
  · have := q1.mid done.flatten B
    rw [List.append_assoc done.flatten X B] at this
    exact h1.trans this
  · have := q1.length
    simp only [List.flatten_append, List.flatten_cons, List.flatten_nil, List.append_nil, List.length_append]; omega
  · rcases List.mem_append.1 hc with hc | hc
    · exact h3 c hc
    · simp only [List.mem_singleton] at hc; subst hc
      exact ⟨by rw [q1.length]; omega, q2⟩
theorem pass1_end (w : World) (ws ls : List Wr) (a : Nat) (hws : ws.length = N) (h : Pass1 ws a ls) (hr : Row w base g cap ls) (ha : a ≤ N) (ha' : N < a + 20) :
    Calls Tryd.prog 115 #[.slice (some ⟨g, 0, none⟩) N cap, .int .i64 (a : Int), .int .i64 (N : Int), cmpFn] w (SortPost w base g cap (Runs ws 20)) := by
  obtain ⟨h1, done, R, rfl, h2, h3⟩ := h
  have hlen := h1.length
  rw [List.length_append] at hlen
  refine (insertion_any w base g cap N done.flatten R [] a N (by simpa using hr) (by rw [List.length_nil]; omega) h2.symm (by omega) hl).mono fun e w' h => ⟨h.1, ?_, h.2.2⟩
  obtain ⟨ls, ⟨Q, rfl, q1, q2⟩, hr'⟩ := h.2.1
  have ql := q1.length
  refine ⟨_, ⟨?_, done ++ [Q], by simp, Blk.snoc (by omega) fun c hc => (h3 c hc).1, fun c hc => ?_⟩, hr'⟩
  · rw [List.append_nil]
    exact h1.trans ((StEq.refl _).app q1)
  · rcases List.mem_append.1 hc with hc | hc
    · exact (h3 c hc).2
    · simp only [List.mem_singleton] at hc; subst hc; exact q2
theorem pass2_step (w : World) (ws ls : List Wr) (s a : Nat) (hs : 0 < s) (hws : ws.length = N) (h : Pass2 ws s a ls) (hr : Row w base g cap ls) (ha : a + 2 * s ≤ N) :
    Calls Tryd.prog 116 #[.slice (some ⟨g, 0, none⟩) N cap, .int .i64 (a : Int), .int .i64 ((a + s : Nat) : Int), .int .i64 ((a + 2 * s : Nat) : Int), cmpFn] w (SortPost w base g cap (Pass2 ws s (a + 2 * s))) := by
  obtain ⟨h1, done, todo, rfl, h2, h3, h4, h5⟩ := h
  have hlen := h1.length
  rw [List.length_append] at hlen
  obtain ⟨x, y, r, rfl, lx, ly, hr2⟩ := h4.two hs (by omega)
  simp only [List.flatten_cons, List.length_append] at hlen
  refine (merge_any base g cap N hl _ w done.flatten x y r.flatten a (a + s) (a + 2 * s) (Nat.le_refl _) (by omega) (by omega) (h5 x (by simp)) (h5 y (by simp)) (by simpa using hr) (by omega) h2.symm (by omega) (by omega)).mono fun e w' h => ⟨h.1, ?_, h.2.2⟩
  obtain ⟨ls, ⟨Z, rfl, q1, q2⟩, hr'⟩ := h.2.1
  have ql := q1.length
  rw [List.length_append] at ql
  refine ⟨_, ⟨?_, done ++ [Z], r, by simp, ?_, fun c hc => ?_, hr2, fun c hc => h5 c (by simp [hc])⟩, hr'⟩
  · have := q1.mid done.flatten r.flatten
    rw [show done.flatten ++ (x ++ y) ++ r.flatten = done.flatten ++ (x :: y :: r).flatten by simp] at this
    exact h1.trans this
  · simp only [List.flatten_append, List.flatten_cons, List.flatten_nil, List.append_nil, List.length_append]; omega
  · rcases List.mem_append.1 hc with hc | hc
    · exact h3 c hc
    · simp only [List.mem_singleton] at hc; subst hc
      exact ⟨by omega, q2⟩
theorem pass2_end (w : World) (ws ls : List Wr) (s a : Nat) (hs : 0 < s) (hws : ws.length = N) (h : Pass2 ws s a ls) (hr : Row w base g cap ls) (ha : a + s < N) (ha' : N < a + 2 * s) :
    Calls Tryd.prog 116 #[.slice (some ⟨g, 0, none⟩) N cap, .int .i64 (a : Int), .int .i64 ((a + s : Nat) : Int), .int .i64 (N : Int), cmpFn] w (SortPost w base g cap (Runs ws (2 * s))) := by
  obtain ⟨h1, done, todo, rfl, h2, h3, h4, h5⟩ := h
  have hlen := h1.length
  rw [List.length_append] at hlen
  obtain ⟨x, y, rfl, lx, ly⟩ := h4.pair (by omega) (by omega)
  simp only [List.flatten_cons, List.flatten_nil, List.append_nil, List.length_append] at hlen
  refine (merge_any base g cap N hl _ w done.flatten x y [] a (a + s) N (Nat.le_refl _) (by omega) (by omega) (h5 x (by simp)) (h5 y (by simp)) (by simpa using hr) (by rw [List.length_nil]; omega) h2.symm (by omega) (by omega)).mono fun e w' h => ⟨h.1, ?_, h.2.2⟩
  obtain ⟨ls, ⟨Z, rfl, q1, q2⟩, hr'⟩ := h.2.1
  have ql := q1.length
  rw [List.length_append] at ql
  refine ⟨_, ⟨?_, done ++ [Z], by simp, Blk.snoc (by omega) fun c hc => (h3 c hc).1, fun c hc => ?_⟩, hr'⟩
  · rw [List.append_nil]
    have := (StEq.refl done.flatten).app q1
    exact h1.trans (by simpa using this)
  · rcases List.mem_append.1 hc with hc | hc
    · exact (h3 c hc).2
    · simp only [List.mem_singleton] at hc; subst hc; exact q2
end
set_option maxRecDepth 100000 in
set_option maxHeartbeats 4000000 in
theorem stable_any (w : World) (base g cap N : Nat) (ws : List Wr) (hR : Row w base g cap ws) (hN : ws.length = N) (hl : N ≤ 1099511627776) :
    Calls Tryd.prog 96 #[.slice (some ⟨g, 0, none⟩) N cap, .int .i64 (N : Int), cmpFn] w (SortPost w base g cap fun ls => StEq ws ls ∧ Srt ls) := by
  have HN := Lib.hid hN
  have HR := Lib.hid hR
  have HS1 : Hid (∀ (w : World) (ls : List Wr) (a : Nat), Pass1 ws a ls → Row w base g cap ls → a + 20 ≤ N → Calls Tryd.prog 115 #[.slice (some ⟨g, 0, none⟩) N cap, .int .i64 (a : Int), .int .i64 ((a + 20 : Nat) : Int), cmpFn] w (SortPost w base g cap (Pass1 ws (a + 20)))) := Lib.hid fun w ls a h1 h2 h3 => pass1_step base g cap N hl w ws ls a hN h1 h2 h3
  have HE1 : Hid (∀ (w : World) (ls : List Wr) (a : Nat), Pass1 ws a ls → Row w base g cap ls → a ≤ N → N < a + 20 → Calls Tryd.prog 115 #[.slice (some ⟨g, 0, none⟩) N cap, .int .i64 (a : Int), .int .i64 (N : Int), cmpFn] w (SortPost w base g cap (Runs ws 20))) := Lib.hid fun w ls a h1 h2 h3 h4 => pass1_end base g cap N hl w ws ls a hN h1 h2 h3 h4
  have HS2 : Hid (∀ (w : World) (ls : List Wr) (s a : Nat), 0 < s → Pass2 ws s a ls → Row w base g cap ls → a + 2 * s ≤ N → Calls Tryd.prog 116 #[.slice (some ⟨g, 0, none⟩) N cap, .int .i64 (a : Int), .int .i64 ((a + s : Nat) : Int), .int .i64 ((a + 2 * s : Nat) : Int), cmpFn] w (SortPost w base g cap (Pass2 ws s (a + 2 * s)))) := Lib.hid fun w ls s a h0 h1 h2 h3 => pass2_step base g cap N hl w ws ls s a h0 hN h1 h2 h3
  have HE2 : Hid (∀ (w : World) (ls : List Wr) (s a : Nat), 0 < s → Pass2 ws s a ls → Row w base g cap ls → a + s < N → N < a + 2 * s → Calls Tryd.prog 116 #[.slice (some ⟨g, 0, none⟩) N cap, .int .i64 (a : Int), .int .i64 ((a + s : Nat) : Int), .int .i64 (N : Int), cmpFn] w (SortPost w base g cap (Runs ws (2 * s)))) := Lib.hid fun w ls s a h0 h1 h2 h3 h4 => pass2_end base g cap N hl w ws ls s a h0 hN h1 h2 h3 h4
  clear hR hN
  go_enter Tryd.func96, Tryd.ntmps96
  go_wp2_with fail
  go_loopw [7, 8] (fun av bv wr => ∃ a : Nat, av = .int .i64 (a : Int) ∧ bv = .int .i64 ((a + 20 : Nat) : Int) ∧ a ≤ N ∧ (∃ ls, Hid (Pass1 ws a ls) ∧ Hid (Row wr base g cap ls)) ∧ Hid (Below base w wr)) (fun av _ _ => N - (intOf av).toNat)
  case atStart => exact ⟨0, rfl, rfl, by omega, ⟨ws, Lib.hid (Pass1.start ws), HR⟩, Lib.hid (Below.refl _ _)⟩
  case round =>
    obtain ⟨a, rfl, rfl, ha, ⟨ls, HP, HRW⟩, HW⟩ := hrel
    clear HR
    by_cases hlt : a + 20 ≤ N
    · have CALL := Lib.hid (HS1.out wr ls a HP.out HRW.out hlt)
      generalize hb : a + 20 = b at *
      have HB := Lib.hid hb
      clear hb
      have d1 : decide ((b : Int) ≤ (N : Int)) = true := by simp; omega
      have d1' : decide (b ≤ N) = true := by simp; omega
      go_wp2_with fail
      refine CALL.out.mono ?_
      rintro e w1 ⟨rfl, ⟨l1, hp, hr⟩, hb1⟩
      have HP1 := Lib.hid hp
      have HR1 := Lib.hid hr
      have HW1 := Lib.hid (HW.out.trans hb1)
      clear hp hr hb1
      go_wp2_with fail
      refine ⟨⟨b, rfl, ?_, by omega, ⟨l1, HP1, HR1⟩, HW1⟩, by have := HB.out; simp [intOf]; omega⟩
      go_num
    · have CALL := Lib.hid (HE1.out wr ls a HP.out HRW.out ha (by omega))
      have hbN : ¬ a + 20 ≤ N := hlt
      generalize a + 20 = b at *
      have d1 : decide ((b : Int) ≤ (N : Int)) = false := by simp; omega
      have d1' : decide (b ≤ N) = false := by simp; omega
      go_wp2_with fail
      refine CALL.out.mono ?_
      rintro e w1 ⟨rfl, ⟨l1, hp, hr⟩, hb1⟩
      have HP1 := Lib.hid hp
      have HR1 := Lib.hid hr
      have HW1 := Lib.hid (HW.out.trans hb1)
      clear hp hr hb1 HP HRW HW CALL d1 d1'
      go_wp2_with fail
      go_loopw [6, 7, 8, 9] (fun sv _ _ _ wr => ∃ s : Nat, sv = .int .i64 (s : Int) ∧ 0 < s ∧ s ≤ 4398046511104 ∧ (∃ ls, Hid (Runs ws s ls) ∧ Hid (Row wr base g cap ls)) ∧ Hid (Below base w wr)) (fun sv _ _ _ _ => N - (intOf sv).toNat)
      case atStart => exact ⟨20, rfl, by omega, by omega, ⟨l1, HP1, HR1⟩, HW1⟩
      case round =>
        obtain ⟨s, rfl, hs, hsb, ⟨ls, HQ, HRQ⟩, HWQ⟩ := hrel
        clear HP1 HR1 HW1
        by_cases hsn : s < N
        · have d2 : decide ((s : Int) < (N : Int)) = true := by simp; omega
          have d2' : decide (s < N) = true := by simp; omega
          have HP0 := Lib.hid (Pass2.start HQ.out)
          go_wp2_with fail
          clear d2 d2'
          obtain ⟨wo, hwo⟩ : ∃ wo : World, Hid (wo = wr) := ⟨_, Lib.hid rfl⟩
          go_loopw [7, 8] (fun av bv wr => ∃ a : Nat, av = .int .i64 (a : Int) ∧ bv = .int .i64 ((a : Int) + 2 * (s : Int)) ∧ a ≤ N ∧ (∃ ls, Hid (Pass2 ws s a ls) ∧ Hid (Row wr base g cap ls)) ∧ Hid (Below base w wr)) (fun av _ _ => N - (intOf av).toNat)
          case atStart => exact ⟨0, rfl, by simp, by omega, ⟨ls, HP0, HRQ⟩, HWQ⟩
          case round =>
            obtain ⟨a, rfl, rfl, ha, ⟨l2, HP, HRW⟩, HW⟩ := hrel
            clear HP0 HRQ HWQ
            have E1 : Hid ((a : Int) + (s : Int) = ((a + s : Nat) : Int)) := Lib.hid (by omega)
            rw [show (a : Int) + 2 * (s : Int) = ((a + 2 * s : Nat) : Int) from by omega]
            by_cases hlt : a + 2 * s ≤ N
            · have CALL := Lib.hid (HS2.out wr l2 s a hs HP.out HRW.out hlt)
              generalize hb : a + 2 * s = b at *
              have HB := Lib.hid hb
              clear hb
              have d1 : decide ((b : Int) ≤ (N : Int)) = true := by simp; omega
              have d1' : decide (b ≤ N) = true := by simp; omega
              go_wp2_with fail
              rw [E1.out]
              refine CALL.out.mono ?_
              rintro e w1 ⟨rfl, ⟨l3, hp, hr⟩, hb1⟩
              have HP1 := Lib.hid hp
              have HR1 := Lib.hid hr
              have HW1 := Lib.hid (HW.out.trans hb1)
              clear hp hr hb1
              go_wp2_with fail
              go_roundw
              case rel =>
                have R : ∃ a' : Nat, Value.int .i64 (b : Int) = .int .i64 (a' : Int) ∧ Value.int .i64 ((b : Int) + 2 * (s : Int)) = .int .i64 ((a' : Int) + 2 * (s : Int)) ∧ a' ≤ N ∧ (∃ ls, Hid (Pass2 ws s a' ls) ∧ Hid (Row w1 base g cap ls)) ∧ Hid (Below base w w1) := ⟨b, rfl, rfl, by omega, ⟨l3, HP1, HR1⟩, HW1⟩
                first | exact R | ((repeat apply Exists.intro); exact ⟨R, rfl⟩)
              case measure => have := HB.out; simp [intOf]; omega
            · have hb2 : a + 2 * s ≤ 1099511627776 + 8796093022208 := by omega
              have hb3 : N < a + 2 * s := by omega
              have CALL := Lib.hid fun h => HE2.out wr l2 s a hs HP.out HRW.out h hb3
              have HEND := Lib.hid fun h => HP.out.end_ (by rw [HN.out]; exact h)
              generalize a + 2 * s = b at *
              have d1 : decide ((b : Int) ≤ (N : Int)) = false := by simp; omega
              have d1' : decide (b ≤ N) = false := by simp; omega
              by_cases hmn : a + s < N
              · have CALL' := Lib.hid (CALL.out hmn)
                have d3 : decide (((a + s : Nat) : Int) < (N : Int)) = true := by simp; omega
                have d3' : decide (a + s < N) = true := by simp; omega
                have d4 : decide ((a : Int) + (s : Int) < (N : Int)) = true := by simp; omega
                go_wp2_with fail
                rw [E1.out]
                refine CALL'.out.mono ?_
                rintro e w1 ⟨rfl, ⟨l3, hp, hr⟩, hb1⟩
                have HP1 := Lib.hid hp
                have HR1 := Lib.hid hr
                have HW1 := Lib.hid (HW.out.trans hb1)
                clear hp hr hb1 d3 d3' d4
                go_wp2_with fail
                refine ⟨⟨2 * s, ?_, by omega, by omega, ⟨l3, HP1, HR1⟩, HW1⟩, by simp [intOf]; omega⟩
                rw [show (s : Int) * 2 = ((2 * s : Nat) : Int) from by omega]
              · have HQ2 := Lib.hid (HEND.out (by omega))
                have d3 : decide (((a + s : Nat) : Int) < (N : Int)) = false := by simp; omega
                have d3' : decide (a + s < N) = false := by simp; omega
                have d4 : decide ((a : Int) + (s : Int) < (N : Int)) = false := by simp; omega
                go_wp2_with fail
                refine ⟨⟨2 * s, ?_, by omega, by omega, ⟨l2, HQ2, HRW⟩, HW⟩, by simp [intOf]; omega⟩
                rw [show (s : Int) * 2 = ((2 * s : Nat) : Int) from by omega]
        · have d2 : decide ((s : Int) < (N : Int)) = false := by simp; omega
          have d2' : decide (s < N) = false := by simp; omega
          have HD := Lib.hid (HQ.out.done (by rw [HN.out]; omega))
          go_wp2_with fail
          go_end0
          exact ⟨rfl, ⟨ls, HD.out, HRQ.out⟩, HWQ.out⟩
set_option maxRecDepth 100000 in
theorem sortStable_any (w : World) (base g cap N : Nat) (ws : List Wr) (hR : Row w base g cap ws) (hN : ws.length = N) (hl : N ≤ 1099511627776) :
    Calls Tryd.prog 74 #[.slice (some ⟨g, 0, none⟩) N cap, cmpFn] w (SortPost w base g cap fun ls => StEq ws ls ∧ Srt ls) := by
  have HC := Lib.hid (stable_any w base g cap N ws hR hN hl)
  clear hR hN
  go_enter Tryd.func74, Tryd.ntmps74
  go_wp2_with fail
  refine HC.out.mono ?_
  rintro e w1 ⟨rfl, h1, h2⟩
  have H1 := Lib.hid h1
  have H2 := Lib.hid h2
  clear h1 h2
  go_wp2_with fail
  go_end0
  exact ⟨rfl, H1.out, H2.out⟩
end Go.Proofs.YtecamaceainfpaaDoor
