/-
  Walk: delta.last.
-/
import Derived.Test.YtecamaceainfpaaDoorSortG
import Derived.Deep.QuietTactic
import Derived.BigQuiet
namespace Go.Proofs.YtecamaceainfpaaDoor
open Go.RowKit

/-- one write more, in place of the last one, if that has its number -/
def lastStep (acc : List Wr) (p : Wr) : List Wr := if acc ≠ [] ∧ K acc (acc.length - 1) = p.1 then acc.set (acc.length - 1) p else acc ++ [p]
/-- of writes by rising numbers the last one of each number -/
def lastL (ls : List Wr) : List Wr := ls.foldl lastStep []
theorem lastL_snoc (ls : List Wr) {k : Nat} (hk : k < ls.length) : lastL (ls.take (k + 1)) = lastStep (lastL (ls.take k)) (ls.getD k (0, [])) := by
  unfold lastL
  rw [List.take_succ_eq_append_getElem hk, List.foldl_append]
  simp [List.getD, hk]
theorem lastStep_len (acc : List Wr) (p : Wr) : (lastStep acc p).length ≤ acc.length + 1 := by
  unfold lastStep; split <;> simp
theorem lastL_len (ls : List Wr) : ∀ k, (lastL (ls.take k)).length ≤ k
  | 0 => by simp [lastL]
  | k + 1 => by
    by_cases hk : k < ls.length
    · rw [lastL_snoc ls hk]
      have := lastStep_len (lastL (ls.take k)) (ls.getD k (0, []))
      have := lastL_len ls k
      omega
    · rw [List.take_of_length_le (by omega)]
      have h := lastL_len ls k
      rw [List.take_of_length_le (by omega)] at h
      omega
set_option maxRecDepth 100000 in
theorem insertion_nil (w : World) : Calls Tryd.prog 115 #[.slice none 0 0, .int .i64 0, .int .i64 0, cmpFn] w fun e w' => e = .returned (.tuple #[]) ∧ w = w' := by
  go_enter Tryd.func115, Tryd.ntmps115
  go_wp2_with fail
  refine wp_loop_rounds 1 ?_
  rw [rounds_succ]
  go_wp2_with fail
  go_end0
  exact ⟨rfl, rfl⟩
set_option maxRecDepth 100000 in
theorem stable_nil (w : World) : Calls Tryd.prog 96 #[.slice none 0 0, .int .i64 0, cmpFn] w fun e w' => e = .returned (.tuple #[]) ∧ w = w' := by
  go_enter Tryd.func96, Tryd.ntmps96
  go_wp2_with fail
  refine wp_loop_rounds 1 ?_
  rw [rounds_succ]
  go_wp2_with fail
  refine (insertion_nil w).mono ?_
  rintro e w' ⟨rfl, rfl⟩
  go_wp2_with fail
  refine wp_loop_rounds 1 ?_
  rw [rounds_succ]
  go_wp2_with fail
  go_end0
  exact ⟨rfl, rfl⟩
set_option maxRecDepth 100000 in
theorem sortStable_nil (w : World) : Calls Tryd.prog 74 #[.slice none 0 0, cmpFn] w fun e w' => e = .returned (.tuple #[]) ∧ w = w' := by
  go_enter Tryd.func74, Tryd.ntmps74
  go_wp2_with fail
  refine (stable_nil w).mono ?_
  rintro e w' ⟨rfl, rfl⟩
  go_wp2_with fail
  go_end0
  exact ⟨rfl, rfl⟩
/-- the writes sorted, whatever slice they lie in -/
theorem sort_own (w : World) (base : Nat) (A : Option Addr) (n c : Nat) (ws : List Wr) (ho : Own2 w base (.slice A n c) ws) (hl : ws.length ≤ 1099511627776) :
    Calls Tryd.prog 74 #[.slice A n c, cmpFn] w fun e w' => e = .returned (.tuple #[]) ∧ Below base w w' ∧ ∃ ls, StEq ws ls ∧ Srt ls ∧ n = ls.length ∧ Wrs w' w'.heap.size A ls := by
  rcases ho.2 with ⟨hv, hn⟩ | ⟨g, cap, cur, hv, hg, hh, hnc, hcm, hcs, htk⟩
  · injection hv with h1 h2 h3
    subst h1 h2 h3
    have : ws = [] := List.eq_nil_of_length_eq_zero hn
    subst this
    refine (sortStable_nil w).mono fun e w' h => ⟨h.1, by rw [← h.2]; exact Below.refl _ _, [], StEq.refl _, Srt.nil, rfl, fun k u hu => by simp [wCells] at hu⟩
  · injection hv with h1 h2 h3
    subst h1 h2 h3
    refine (sortStable_any w base g c ws.length ws ho rfl hl).mono fun e w' h => ⟨h.1, h.2.2, ?_⟩
    obtain ⟨ls, ⟨q1, q2⟩, hr⟩ := h.2.1
    refine ⟨ls, q1, q2, q1.length.symm, fun k u hu => ⟨_, rfl, hr.lt.2, ?_⟩⟩
    have hk := (List.getElem?_eq_some_iff.1 hu).1
    rw [wCells_length] at hk
    rw [show (⟨g, 0, none⟩ : Addr).add k = ⟨g, k, none⟩ by unfold Addr.add; split <;> simp_all]
    exact (World.ownsRow.cellAt hr k (by omega)).trans hu
/-- what last gives back -/
def LastPost (w : World) (a b : List Wr) (e : Ending) (w' : World) : Prop :=
  (∃ ls v, StEq (a ++ b) ls ∧ Srt ls ∧ e = .returned v ∧ Own2 w' w.heap.size v (lastL ls)) ∧ Below w.heap.size w w'
set_option maxRecDepth 100000 in
set_option maxHeartbeats 2000000 in
theorem last_any (w : World) (A B : Option Addr) (c d : Nat) (a b : List Wr) (hA : Wrs w w.heap.size A a) (hB : Wrs w w.heap.size B b) (hl : a.length + b.length ≤ 1099511627776) :
    Calls Tryd.prog 48 #[.slice A a.length c, .slice B b.length d] w (LastPost w a b) := by
  obtain ⟨i0, hi0, hz0, hz1, hz2⟩ := info_parts Tryd.infoWrite
  have hx := Whole.made w 30 #[.slice A a.length c, .slice B b.length d]
  have HC := Lib.hid (concat_any (w.alloc (.cells #[.slice A a.length c, .slice B b.length d] 30)) w.heap.size A B c d a b (hx.cell 0) (hx.cell 1) (by simp) (Lies.block' hA _) (Lies.block' hB _) hl)
  have HB0 := Lib.hid ((Below.refl w.heap.size w).alloc (Nat.le_refl _) (.cells #[.slice A a.length c, .slice B b.length d] 30))
  clear hx hA hB
  go_enter Tryd.func48, Tryd.ntmps48
  go_wp2_with fail
  refine HC.out.mono ?_
  rintro e w1 ⟨⟨v1, rfl, ho1⟩, hb1⟩
  have hb1' := HB0.out.trans (hb1.mono (by simp))
  have HO1 := Lib.hid (World.ownsRow.mono ho1 (show w.heap.size ≤ _ by simp))
  obtain ⟨A1, c1, hv1, _⟩ := own_shape ho1 (by decide)
  obtain ⟨n1, hn1⟩ : ∃ n1, (a ++ b).length = n1 := ⟨_, rfl⟩
  rw [hn1] at hv1
  subst hv1
  have HS := Lib.hid (sort_own w1 w.heap.size A1 n1 c1 (a ++ b) HO1.out (by rw [List.length_append]; exact hl))
  have hn1b : n1 ≤ 1099511627776 := by rw [← hn1, List.length_append]; exact hl
  have HB1 := Lib.hid hb1'
  clear ho1 hb1 hb1' hn1 HO1 HC HB0
  go_wp2_with fail
  refine HS.out.mono ?_
  rintro e w2 ⟨rfl, hb2, ls, hst, hsr, rfl, hls⟩
  have HB2 := Lib.hid (HB1.out.trans hb2)
  have HST := Lib.hid (And.intro hst hsr)
  have HLS := Lib.hid hls
  have hw2 : w.heap.size ≤ w2.heap.size := HB2.out.size
  clear hb2 hst hsr hls HS HB1
  go_wp2_with fail
  go_loopw [6, 8, 9, 18] (fun v _ _ i wr => ∃ k : Nat, k ≤ ls.length ∧ i = .int .i64 k ∧ Hid (Own2 wr w2.heap.size v (lastL (ls.take k))) ∧ Hid (Below w2.heap.size w2 wr)) (fun _ _ _ i _ => ls.length - (intOf i).toNat)
  case atStart => exact ⟨0, by omega, rfl, Lib.hid (World.ownsRow_nil _ _ _ _), Lib.hid (Below.refl _ _)⟩
  case round =>
    obtain ⟨k, hk, rfl, HO, HW⟩ := hrel
    by_cases hlt : k < ls.length
    · obtain ⟨bd, rfl, hbd, b0, b1⟩ := HLS.out.at' hlt
      have b0' := (HW.out.cell (p := bd.add (k * 2)) (by rw [add_block]; exact hbd)).trans b0
      have b1' := (HW.out.cell (p := ⟨(bd.add (k * 2)).block, (bd.add (k * 2)).off + 1, none⟩) (by show (bd.add (k * 2)).block < _; rw [add_block]; exact hbd)).trans b1
      clear b0 b1
      have HSN := Lib.hid (lastL_snoc ls hlt)
      have hal := lastL_len ls k
      generalize ls.getD k (0, []) = p at *
      generalize lastL (ls.take k) = acc at *
      obtain ⟨n, y⟩ := p
      dsimp only at b0' b1'
      have i0' : (0 : Int) ≤ (k : Int) := by omega
      have i1 : (k : Int) < (ls.length : Int) := by omega
      have hbs : w2.heap.size ≤ wr.heap.size := HW.out.size
      have HE := Lib.hid (HW.out.alloc hbs (.cells #[.int .i64 n, S y] 36))
      have HOE := Lib.hid (World.ownsRow.alloc HO.out (.cells #[.int .i64 n, S y] 36))
      have hx := Whole.made wr 36 #[.int .i64 n, S y]
      have x0 : (wr.alloc (.cells #[.int .i64 n, S y] 36)).cell? ⟨wr.heap.size, 0, none⟩ = some (.int .i64 n) := hx.cell 0
      have x1 : (wr.alloc (.cells #[.int .i64 n, S y] 36)).cell? ⟨wr.heap.size, 1, none⟩ = some (S y) := hx.cell 1
      obtain ⟨A6, c6, hv6, _⟩ := own_shape HO.out (by decide)
      clear hx
      by_cases hemp : acc = []
      · subst hemp
        have HNX : Hid (lastL (ls.take (k + 1)) = [(n, y)]) := Lib.hid (by rw [HSN.out]; rfl)
        subst hv6
        have d1 : decide ((0 : Int) < (([] : List Wr).length : Int)) = false := by simp
        go_wp2_with fail
        go_quiet (fail)
        have HO3 : Hid (Own2 ((wr.alloc (.cells #[.int .i64 n, S y] 36)).drewN nq) w2.heap.size (.slice A6 ([] : List Wr).length c6) ([] : List Wr)) := HOE
        have HE3 : Hid (Below w2.heap.size w2 ((wr.alloc (.cells #[.int .i64 n, S y] 36)).drewN nq)) := Lib.hid (Below.draws HE.out _)
        have x0' : ((wr.alloc (.cells #[.int .i64 n, S y] 36)).drewN nq).cell? ⟨wr.heap.size, 0, none⟩ = some (.int .i64 n) := x0
        have x1' : ((wr.alloc (.cells #[.int .i64 n, S y] 36)).drewN nq).cell? ⟨wr.heap.size, 1, none⟩ = some (S y) := x1
        have HZ3 : Hid (((wr.alloc (.cells #[.int .i64 n, S y] 36)).drewN nq).heap.size = wr.heap.size + 1) := Lib.hid (by simp)
        generalize (wr.alloc (.cells #[.int .i64 n, S y] 36)).drewN nq = w3 at *
        have HOA := Lib.hid (World.ownsRow.alloc HO3.out (.cells #[.int .i64 n, S y] 36))
        have HNW : Hid (∀ i u, [Value.int .i64 n, S y][i]? = some u → (w3.alloc (.cells #[.int .i64 n, S y] 36)).cell? ((⟨wr.heap.size + 1, 0, none⟩ : Addr).add i) = some u) := Lib.hid (fun i u hu => by
          obtain ⟨ad', e', _, hc'⟩ := lies_made w3 36 [Value.int .i64 n, S y] (w3.heap.size + 1) (by omega) i u hu
          injection e' with e'; subst e'
          rw [HZ3.out] at hc'
          exact hc')
        have H1 : Hid (∀ u ∈ [Value.int .i64 n, S y], u.oneCell' = true) := Lib.hid (by simp [Value.oneCell'])
        have H63 : Hid (([] : List Wr).length + 1 ≤ maxLen) := Lib.hid (by unfold maxLen; simp)
        have HBY : Hid ((([] : List Wr).length + 1) * 24 ≤ 140737488355328) := Lib.hid (by simp)
        have HBA : Hid (w2.heap.size ≤ (w3.alloc (.cells #[.int .i64 n, S y] 36)).heap.size) := Lib.hid (by have := HZ3.out; simp; omega)
        have HE2 := Lib.hid (HE3.out.alloc HE3.out.size (.cells #[.int .i64 n, S y] 36))
        have hz3 : w3.heap.size = wr.heap.size + 1 := HZ3.out
        go_wp2_with (at_builtin; refine wpList_append_own _ rfl (.tmp 42) (.tmp 44) 30 rfl w2.heap.size 36 i0 _ 2 24 Tryd.underlying30 hi0 hz0 hz1 hz2 rfl (by decide) _ _ _ rfl HOA.out ⟨wr.heap.size + 1, 0, none⟩ 1 1 [.int .i64 n, S y] rfl rfl HNW.out H1.out H63.out HBY.out HBA.out ?_; intro v' w4 hown' hgrow _)
        have HO4 : Hid (Own2 w4 w2.heap.size v' (lastL (ls.take (k + 1)))) := Lib.hid (by
          rw [HNX.out]; exact hown')
        have HB4 : Hid (Below w2.heap.size w2 w4) := Lib.hid (HE2.out.grown hgrow HBA.out (own_ge HOA.out))
        clear hown' hgrow HOA HNW hz3
        go_wp2_with fail
        go_roundw
        case rel =>
          have R : ∃ k' : Nat, k' ≤ ls.length ∧ Value.int .i64 ((k : Int) + 1) = .int .i64 k' ∧ Hid (Own2 w4 w2.heap.size v' (lastL (ls.take k'))) ∧ Hid (Below w2.heap.size w2 w4) := ⟨k + 1, by omega, by go_num, HO4, HB4⟩
          first | exact R | ((repeat apply Exists.intro); exact ⟨R, rfl⟩)
        case measure => simp [intOf]; omega
      · have hlen : 0 < acc.length := List.length_pos_iff.2 hemp
        clear hv6
        obtain ⟨g6, c6, hv6, hg6, hgl6⟩ := World.ownsRow.form HO.out hlen
        subst hv6
        obtain ⟨p1, p2⟩ := Row.cells (g := g6) HOE.out (i := acc.length - 1) (by omega)
        have d1 : decide ((0 : Int) < (acc.length : Int)) = true := by simp; omega
        have d1' : decide (0 < acc.length) = true := by simp; omega
        obtain ⟨m, hm⟩ : ∃ m, m = acc.length - 1 := ⟨_, rfl⟩
        have HM := Lib.hid hm
        rw [← hm] at p1 p2
        have e1 : IntKind.i64.wrap ((acc.length : Int) - 1) = (m : Int) := by rw [IntWalk.i64_in _ (by omega)]; omega
        have j0 : (0 : Int) ≤ (m : Int) := by omega
        have j1 : (m : Int) < (acc.length : Int) := by omega
        have HMI : Hid ((acc.length : Int) - 1 = (m : Int)) := Lib.hid (by omega)
        have hKm : (acc.getD m (0, [])).1 = K acc (acc.length - 1) := by unfold K; rw [hm]
        have HKM := Lib.hid hKm
        clear hm hKm
        generalize acc.getD m (0, []) = q at *
        by_cases heq : q.1 = n
        · have HNX : Hid (lastL (ls.take (k + 1)) = acc.set m (n, y)) := Lib.hid (by
            rw [HSN.out]; unfold lastStep
            rw [if_pos ⟨hemp, by rw [← HKM.out]; exact heq⟩, HM.out])
          have dq : (q.1 == n) = true := by simp [heq]
          have dq' : ((q.1 : Int) == (n : Int)) = true := by simp [heq]
          clear heq hemp
          go_wp2_with fail
          go_quiet (fail)
          have HO3 : Hid (Own2 ((wr.alloc (.cells #[.int .i64 n, S y] 36)).drewN nq) w2.heap.size (.slice (some ⟨g6, 0, none⟩) acc.length c6) acc) := HOE
          have HE3 : Hid (Below w2.heap.size w2 ((wr.alloc (.cells #[.int .i64 n, S y] 36)).drewN nq)) := Lib.hid (Below.draws HE.out _)
          have x0' : ((wr.alloc (.cells #[.int .i64 n, S y] 36)).drewN nq).cell? ⟨wr.heap.size, 0, none⟩ = some (.int .i64 n) := x0
          have x1' : ((wr.alloc (.cells #[.int .i64 n, S y] 36)).drewN nq).cell? ⟨wr.heap.size, 1, none⟩ = some (S y) := x1
          have HZ3 : Hid (((wr.alloc (.cells #[.int .i64 n, S y] 36)).drewN nq).heap.size = wr.heap.size + 1) := Lib.hid (by simp)
          generalize (wr.alloc (.cells #[.int .i64 n, S y] 36)).drewN nq = w3 at *
          have f1 := Row.free (g := g6) HO3.out (m * 2)
          have f2 := Row.free (g := g6) HO3.out (m * 2 + 1)
          obtain ⟨p3, p4⟩ := Row.cells (g := g6) HO3.out (i := m) (by have := HM.out; omega)
          have HR4 := Lib.hid (Row.set (g := g6) HO3.out m (n, y))
          have HO5 : Hid (Own2 ((w3.setCell ⟨g6, m * 2, none⟩ (.int .i64 n)).setCell ⟨g6, m * 2 + 1, none⟩ (S y)) w2.heap.size (.slice (some ⟨g6, 0, none⟩) acc.length c6) (lastL (ls.take (k + 1)))) := Lib.hid (by
            have := HR4.out
            unfold Row at this
            rw [List.length_set] at this
            rw [HNX.out]; unfold Own2
            rw [List.length_set]; exact this)
          have HB5 : Hid (Below w2.heap.size w2 ((w3.setCell ⟨g6, m * 2, none⟩ (.int .i64 n)).setCell ⟨g6, m * 2 + 1, none⟩ (S y))) := Lib.hid ((HE3.out.setCell (p := ⟨g6, m * 2, none⟩) hg6 _).setCell (p := ⟨g6, m * 2 + 1, none⟩) hg6 _)
          go_wp2_with fail
          exact ⟨⟨k + 1, by omega, by go_num, HO5, HB5⟩, by simp [intOf]; omega⟩
        · have HNX : Hid (lastL (ls.take (k + 1)) = acc ++ [(n, y)]) := Lib.hid (by
            rw [HSN.out]; unfold lastStep
            rw [if_neg fun h => heq (by rw [HKM.out]; exact h.2)])
          have dq : (q.1 == n) = false := by simp [heq]
          have dq' : ((q.1 : Int) == (n : Int)) = false := by simp [heq]
          clear heq hemp
          go_wp2_with fail
          go_quiet (fail)
          have HO3 : Hid (Own2 ((wr.alloc (.cells #[.int .i64 n, S y] 36)).drewN nq) w2.heap.size (.slice (some ⟨g6, 0, none⟩) acc.length c6) acc) := HOE
          have HE3 : Hid (Below w2.heap.size w2 ((wr.alloc (.cells #[.int .i64 n, S y] 36)).drewN nq)) := Lib.hid (Below.draws HE.out _)
          have x0' : ((wr.alloc (.cells #[.int .i64 n, S y] 36)).drewN nq).cell? ⟨wr.heap.size, 0, none⟩ = some (.int .i64 n) := x0
          have x1' : ((wr.alloc (.cells #[.int .i64 n, S y] 36)).drewN nq).cell? ⟨wr.heap.size, 1, none⟩ = some (S y) := x1
          have HZ3 : Hid (((wr.alloc (.cells #[.int .i64 n, S y] 36)).drewN nq).heap.size = wr.heap.size + 1) := Lib.hid (by simp)
          generalize (wr.alloc (.cells #[.int .i64 n, S y] 36)).drewN nq = w3 at *
          have HOA := Lib.hid (World.ownsRow.alloc HO3.out (.cells #[.int .i64 n, S y] 36))
          have HNW : Hid (∀ i u, [Value.int .i64 n, S y][i]? = some u → (w3.alloc (.cells #[.int .i64 n, S y] 36)).cell? ((⟨wr.heap.size + 1, 0, none⟩ : Addr).add i) = some u) := Lib.hid (fun i u hu => by
            obtain ⟨ad', e', _, hc'⟩ := lies_made w3 36 [Value.int .i64 n, S y] (w3.heap.size + 1) (by omega) i u hu
            injection e' with e'; subst e'
            rw [HZ3.out] at hc'
            exact hc')
          have H1 : Hid (∀ u ∈ [Value.int .i64 n, S y], u.oneCell' = true) := Lib.hid (by simp [Value.oneCell'])
          have H63 : Hid (acc.length + 1 ≤ maxLen) := Lib.hid (by unfold maxLen; omega)
          have HBY : Hid ((acc.length + 1) * 24 ≤ 140737488355328) := Lib.hid (by omega)
          have HBA : Hid (w2.heap.size ≤ (w3.alloc (.cells #[.int .i64 n, S y] 36)).heap.size) := Lib.hid (by have := HZ3.out; simp; omega)
          have HE2 := Lib.hid (HE3.out.alloc HE3.out.size (.cells #[.int .i64 n, S y] 36))
          have hz3 : w3.heap.size = wr.heap.size + 1 := HZ3.out
          go_wp2_with (at_builtin; refine wpList_append_own _ rfl (.tmp 42) (.tmp 44) 30 rfl w2.heap.size 36 i0 _ 2 24 Tryd.underlying30 hi0 hz0 hz1 hz2 rfl (by decide) _ _ _ rfl HOA.out ⟨wr.heap.size + 1, 0, none⟩ 1 1 [.int .i64 n, S y] rfl rfl HNW.out H1.out H63.out HBY.out HBA.out ?_; intro v' w4 hown' hgrow _)
          have HO4 : Hid (Own2 w4 w2.heap.size v' (lastL (ls.take (k + 1)))) := Lib.hid (by
            rw [HNX.out]; unfold Own2
            have e : wCells (acc ++ [(n, y)]) = wCells acc ++ [.int .i64 n, S y] := by rw [wCells_append]; rfl
            rw [e, List.length_append]; exact hown')
          have HB4 : Hid (Below w2.heap.size w2 w4) := Lib.hid (HE2.out.grown hgrow HBA.out (own_ge HOA.out))
          clear hown' hgrow HOA HNW hz3
          go_wp2_with fail
          go_roundw
          case rel =>
            have R : ∃ k' : Nat, k' ≤ ls.length ∧ Value.int .i64 ((k : Int) + 1) = .int .i64 k' ∧ Hid (Own2 w4 w2.heap.size v' (lastL (ls.take k'))) ∧ Hid (Below w2.heap.size w2 w4) := ⟨k + 1, by omega, by go_num, HO4, HB4⟩
            first | exact R | ((repeat apply Exists.intro); exact ⟨R, rfl⟩)
          case measure => simp [intOf]; omega
    · obtain rfl : k = ls.length := by omega
      have hd : decide (ls.length < ls.length) = false := by simp
      rw [List.take_of_length_le (Nat.le_refl _)] at HO
      go_wp2_with fail
      go_ret
      exact ⟨⟨ls, _, HST.out.1, HST.out.2, rfl, World.ownsRow.mono HO.out hw2⟩, HB2.out.trans (HW.out.mono hw2)⟩
end Go.Proofs.YtecamaceainfpaaDoor
