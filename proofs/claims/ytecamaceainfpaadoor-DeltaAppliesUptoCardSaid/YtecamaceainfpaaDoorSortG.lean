/-
  Walks: slices.Grow of nothing, slices.Concat of two, at writes.
-/
import Derived.Test.YtecamaceainfpaaDoorSortF
import Derived.Lib.AppendZerosOnto
import Derived.Lib.SliceRun
import Derived.Lib.Walk
import Derived.Deep.Onto
namespace Go.Proofs.YtecamaceainfpaaDoor
open Go.RowKit

/-- a row of writes of the call's own -/
abbrev Own2 (w : World) (base : Nat) (v : Value) (ws : List Wr) : Prop := w.ownsRow base 36 2 v ws.length (wCells ws)
theorem zero_size (z : Value) (hz : z.cells.size = 2) (k : Nat) : (Builtin.zeroCells z.cells k).size = k * 2 := by simp [Builtin.zeroCells, hz]
set_option maxRecDepth 100000 in
set_option maxHeartbeats 2000000 in
theorem grow_any (w : World) (n : Nat) (hn : n ≤ 1099511627776) :
    Calls Tryd.prog 95 #[.slice none 0 0, .int .i64 (n : Int)] w fun e w' => (∃ v, e = .returned v ∧ Own2 w' w.heap.size v []) ∧ Below w.heap.size w w' := by
  obtain ⟨i0, hi0, hz0, hz1, hz2⟩ := info_parts Tryd.infoWrite
  by_cases h0 : n = 0
  · subst h0
    go_enter Tryd.func95, Tryd.ntmps95
    go_wp2_with fail
    go_ret
    exact ⟨⟨_, rfl, World.ownsRow_nil _ _ _ _⟩, Below.refl _ _⟩
  · have hold : (Builtin.firstCells i0.size 0 (.slice none 0 0)).run Tryd.prog w.drew = .ok #[] w.drew := run_firstCells_none w.drew i0.size 0 0 0
    have hrz : ∀ ty, (Builtin.append_ #[30, 3] ty #[.slice none 0 0, .int .i64 (n : Int)]).run Tryd.prog w =
        .ok (.slice (some ⟨w.heap.size, 0, none⟩) n (grownCap w n 0 36)) (w.drew.alloc (.cells (([] : List Value).toArray ++ Builtin.zeroCells (Value.agg #[.int .i64 0, .string ⟨#[]⟩]).cells n ++ Builtin.zeroCells (Value.agg #[.int .i64 0, .string ⟨#[]⟩]).cells (grownCap w n 0 36 - n)) 36)) := fun ty => by
      have h := Lib.run_append_grow_zeros w 30 3 ty 36 i0 (Value.agg #[.int .i64 0, .string ⟨#[]⟩]) .i64 .i64 Tryd.underlying30 Tryd.underlying3 hi0 hz0 none 0 0 [] hold n (by omega) (by omega) (by omega) (by omega)
        (by rw [hz2]; omega)
        (by rw [Nat.zero_add]; exact growslice_fits (by omega) (by rw [hz2]; omega))
      rw [Nat.zero_add] at h
      exact h
    have hG1 : n ≤ grownCap w n 0 36 := grownCap_ge w _ _ _
    have hG2 : grownCap w n 0 36 ≤ maxLen := grownCap_le_maxLen w n 0 36 (by unfold maxLen; omega)
    generalize grownCap w n 0 36 = G at *
    have HOWN : Hid (Own2 (w.drew.alloc (.cells (([] : List Value).toArray ++ Builtin.zeroCells (Value.agg #[.int .i64 0, .string ⟨#[]⟩]).cells n ++ Builtin.zeroCells (Value.agg #[.int .i64 0, .string ⟨#[]⟩]).cells (G - n)) 36)) w.heap.size (.slice (some ⟨w.heap.size, 0, none⟩) 0 G) []) := Lib.hid ⟨rfl, .inr ⟨w.heap.size, G, _, rfl, Nat.le_refl _, heap_alloc_new w.drew _, Nat.zero_le _, hG2, by
      rw [Array.size_append, Array.size_append, zero_size _ rfl, zero_size _ rfl]; simp; omega, by simp [wCells]⟩⟩
    have HB : Hid (Below w.heap.size w (w.drew.alloc (.cells (([] : List Value).toArray ++ Builtin.zeroCells (Value.agg #[.int .i64 0, .string ⟨#[]⟩]).cells n ++ Builtin.zeroCells (Value.agg #[.int .i64 0, .string ⟨#[]⟩]).cells (G - n)) 36))) := Lib.hid ((Below.refl w.heap.size w).drew.alloc (Nat.le_refl _) _)
    have hG63 : G ≤ 9223372036854775807 := by unfold maxLen at hG2; omega
    generalize w.drew.alloc (.cells (([] : List Value).toArray ++ Builtin.zeroCells (Value.agg #[.int .i64 0, .string ⟨#[]⟩]).cells n ++ Builtin.zeroCells (Value.agg #[.int .i64 0, .string ⟨#[]⟩]).cells (G - n)) 36) = w1 at *
    have d1 : decide ((0 : Int) < (n : Int)) = true := by simp; omega
    have d1' : decide (0 < n) = true := by simp; omega
    clear hold hG2
    go_enter Tryd.func95, Tryd.ntmps95
    go_wp2_with (at_builtin; refine Lib.wpList_append_run _ rfl _ _ _ _ rfl _ _ rfl rfl _ _ (hrz _) ?_)
    go_ret
    exact ⟨⟨_, rfl, HOWN.out⟩, HB.out⟩
section
variable {P : Program}
/-- append onto a row of the call's own, the source nil or not -/
theorem wpList_append_src {w : World} {ops : Array Oper} {rest : List Oper} {o : Oper} {a : Act} {Q : Exit → Act → World → Prop} (hgd : o.guard = none) (s x : Operand) (t : TypeId)
    (ho : o.op = .call { callee := .builtin .append, args := #[s, x], argTypes := #[t, t] })
    (base : Nat) (e : TypeId) (i : TypeInfo) (z : Value) (size bytes : Nat) (ht : P.underlying t = some (.slice e)) (hi : P.info? e = some i) (hz : i.zero = some z)
    (hsize : i.size = size) (hby : i.bytes = bytes) (hzs : z.cells.size = size) (hsz : 0 < size)
    (v : Value) (n : Nat) (xs : List Value) (hs : a.eval s = v) (hown : w.ownsRow base e size v n xs)
    (B : Nat) (A : Option Addr) (m c : Nat) (news : List Value) (hx : a.eval x = .slice A m c) (hl : news.length = m * size) (hr : Lies w B A news) (h1 : ∀ u ∈ news, u.oneCell' = true)
    (h63 : n + m ≤ maxLen) (hbytes : (n + m) * bytes ≤ 140737488355328) (hbase : base ≤ w.heap.size)
    (h : ∀ v' w', w'.ownsRow base e size v' (n + m) (xs ++ news) → w.grownBy w' v.ownBlock → wpList P ops Q rest (a.put o.dst v') w') : wpList P ops Q (o :: rest) a w := by
  cases A with
  | some ad =>
    refine wpList_append_own w hgd s x t ho base e i z size bytes ht hi hz hsize hby hzs hsz v n xs hs hown ad m c news hx hl (fun j u hu => ?_) h1 h63 hbytes hbase fun v' w' h2 h3 _ => h v' w' h2 h3
    obtain ⟨ad', e', _, hc⟩ := hr j u hu
    injection e' with e'; subst e'
    exact hc
  | none =>
    have hn : news = [] := by
      cases news with
      | nil => rfl
      | cons u r => obtain ⟨ad, e', _⟩ := hr 0 u rfl; cases e'
    subst hn
    obtain rfl : m = 0 := by
      have : m * size = 0 := by simpa using hl.symm
      rcases Nat.mul_eq_zero.1 this with h | h <;> omega
    refine wpList_plain hgd fun K hK => ?_
    have hrun : (Builtin.append_ #[t, t] o.type #[v, .slice none 0 c]).run P w = .ok v w := by
      rcases hown.2 with ⟨rfl, rfl⟩ | ⟨g, cap, cur, rfl, _, _, hnc, _⟩
      · simp [Builtin.append_, run_underlying ht, Go.sizeOf, typeInfo, hi, Builtin.lenOf, Builtin.firstCells]
      · simp [Builtin.append_, run_underlying ht, Go.sizeOf, typeInfo, hi, Builtin.lenOf, Builtin.firstCells, hnc, storeCells]
    unfold Oper.wp execOp
    simp only [ho, resolve, invoke, builtin, Sem.run_bind, Sem.run_pure, Result.andThen_ok, List.map_toArray, List.map_cons, List.map_nil, hs, hx, hrun]
    exact hK _ _ (h v w (by simpa using hown) (World.grownBy.refl w _))
end
theorem wCells_one (ws : List Wr) : ∀ u ∈ wCells ws, u.oneCell' = true := by
  intro u hu
  simp only [wCells, List.mem_flatMap] at hu
  obtain ⟨p, _, hp⟩ := hu
  simp only [List.mem_cons, List.not_mem_nil, or_false] at hp
  rcases hp with rfl | rfl <;> rfl
set_option maxRecDepth 100000 in
set_option maxHeartbeats 2000000 in
theorem concat_any (w : World) (gs : Nat) (A B : Option Addr) (c d : Nat) (a b : List Wr) (h0 : w.cell? ⟨gs, 0, none⟩ = some (.slice A a.length c)) (h1 : w.cell? ⟨gs, 1, none⟩ = some (.slice B b.length d)) (hgs : gs < w.heap.size) (hA : Wrs w w.heap.size A a) (hB : Wrs w w.heap.size B b) (hl : a.length + b.length ≤ 1099511627776) :
    Calls Tryd.prog 73 #[.slice (some ⟨gs, 0, none⟩) 2 2] w fun e w' => (∃ v, e = .returned v ∧ Own2 w' w.heap.size v (a ++ b)) ∧ Below w.heap.size w w' := by
  obtain ⟨i0, hi0, hz0, hz1, hz2⟩ := info_parts Tryd.infoWrite
  obtain ⟨L, HL⟩ : ∃ L : Nat → List Wr, Hid (L = fun k => (if 1 ≤ k then a else []) ++ (if 2 ≤ k then b else [])) := ⟨_, Lib.hid rfl⟩
  have HL0 : Hid (L 0 = []) := Lib.hid (by rw [HL.out]; simp)
  have HL2 : Hid (L 2 = a ++ b) := Lib.hid (by rw [HL.out]; simp)
  have HK : Hid (∀ k, k < 2 → ∃ Q q l, Wrs w w.heap.size Q l ∧ L (k + 1) = L k ++ l ∧ (L k).length + l.length ≤ 1099511627776 ∧ w.cell? ⟨gs, k, none⟩ = some (Value.slice Q l.length q)) := Lib.hid (by
    intro k hk
    match k, hk with
    | 0, _ => exact ⟨A, c, a, hA, by rw [HL.out]; simp, by rw [HL.out]; simp; omega, h0⟩
    | 1, _ => exact ⟨B, d, b, hB, by rw [HL.out]; simp, by rw [HL.out]; simp; omega, h1⟩)
  have HLL : Hid (∀ k, k ≤ 2 → (L k).length ≤ 1099511627776) := Lib.hid (by
    intro k hk
    rw [HL.out]
    by_cases h1 : 1 ≤ k <;> by_cases h2 : 2 ≤ k <;> simp [h1, h2] <;> omega)
  clear HL h0 h1 hA hB
  go_enter Tryd.func73, Tryd.ntmps73
  go_wp2_with fail
  go_loopw [3, 5, 11] (fun s _ i wr => ∃ k : Nat, k ≤ 2 ∧ i = .int .i64 k ∧ s = .int .i64 ((L k).length : Int) ∧ Hid (Below w.heap.size w wr)) (fun _ _ i _ => 2 - (intOf i).toNat)
  case atStart => exact ⟨0, by omega, rfl, by rw [HL0.out]; rfl, Lib.hid (Below.refl _ _)⟩
  case round =>
    obtain ⟨k, hk, rfl, rfl, HW⟩ := hrel
    by_cases hlt : k < 2
    · obtain ⟨Q, q, l, hQ, hac, hle, hcell⟩ := HK.out k hlt
      have hd : decide ((k : Int) < 2) = true := by simp; omega
      have hd' : decide (k < 2) = true := by simp; omega
      have hck : wr.cell? ⟨gs, k, none⟩ = some (Value.slice Q l.length q) := (HW.out.cell (p := ⟨gs, k, none⟩) hgs).trans hcell
      have hck' : wr.cell? ((⟨gs, 0, none⟩ : Addr).add k) = some (Value.slice Q l.length q) := by
        rw [show (⟨gs, 0, none⟩ : Addr).add k = ⟨gs, k, none⟩ by unfold Addr.add; split <;> simp_all, HW.out.cell (p := ⟨gs, k, none⟩) hgs]; exact hcell
      have HAC := Lib.hid hac
      have i0' : (0 : Int) ≤ (k : Int) := by omega
      have i1 : (k : Int) < 2 := by omega
      have dn : decide ((L k).length + l.length < 0) = false := by simp
      have dn' : decide (((L k).length : Int) + (l.length : Int) < 0) = false := by simp; omega
      clear hQ hac
      go_wp2_with fail
      go_roundw
      case rel =>
        have R : ∃ k' : Nat, k' ≤ 2 ∧ Value.int .i64 ((k : Int) + 1) = .int .i64 k' ∧ Value.int .i64 (((L k).length : Int) + (l.length : Int)) = .int .i64 ((L k').length : Int) ∧ Hid (Below w.heap.size w wr) := ⟨k + 1, by omega, by go_num, by rw [HAC.out, List.length_append]; go_num, HW⟩
        first | exact R | ((repeat apply Exists.intro); exact ⟨R, rfl⟩)
      case measure => simp [intOf]; omega
    · obtain rfl : k = 2 := by omega
      have hd : decide (((2 : Nat) : Int) < 2) = false := by simp
      obtain ⟨n, HN⟩ : ∃ n, Hid ((L 2).length = n) := ⟨_, Lib.hid rfl⟩
      rw [HN.out]
      have hlen : n ≤ 1099511627776 := by rw [← HN.out]; exact HLL.out 2 (by omega)
      go_wp2_with fail
      refine (grow_any wr n hlen).mono ?_
      rintro e w1 ⟨⟨v1, rfl, ho1⟩, hb1⟩
      have HO1 : Hid (Own2 w1 w.heap.size v1 (L 0)) := Lib.hid (by rw [HL0.out]; exact World.ownsRow.mono ho1 HW.out.size)
      have HB1 := Lib.hid (HW.out.trans (hb1.mono HW.out.size))
      clear ho1 hb1 hd HW
      go_wp2_with fail
      go_loopw [6, 8, 27] (fun v _ i wr => ∃ k : Nat, k ≤ 2 ∧ i = .int .i64 k ∧ Hid (Own2 wr w.heap.size v (L k)) ∧ Hid (Below w.heap.size w wr)) (fun _ _ i _ => 2 - (intOf i).toNat)
      case atStart => exact ⟨0, by omega, rfl, HO1, HB1⟩
      case round =>
        obtain ⟨k, hk, rfl, HO, HW⟩ := hrel
        clear HO1 HB1
        by_cases hlt : k < 2
        · obtain ⟨Q, q, l, hQ, hac, hle, hcell⟩ := HK.out k hlt
          have hd : decide ((k : Int) < 2) = true := by simp; omega
          have hd' : decide (k < 2) = true := by simp; omega
          have hck : wr.cell? ⟨gs, k, none⟩ = some (Value.slice Q l.length q) := (HW.out.cell (p := ⟨gs, k, none⟩) hgs).trans hcell
          have hck' : wr.cell? ((⟨gs, 0, none⟩ : Addr).add k) = some (Value.slice Q l.length q) := by
            rw [show (⟨gs, 0, none⟩ : Addr).add k = ⟨gs, k, none⟩ by unfold Addr.add; split <;> simp_all, HW.out.cell (p := ⟨gs, k, none⟩) hgs]; exact hcell
          have HQ := Lib.hid (Lies.below hQ HW.out)
          have HAC := Lib.hid hac
          have i0' : (0 : Int) ≤ (k : Int) := by omega
          have i1 : (k : Int) < 2 := by omega
          have HS1 : Hid ((wCells l).length = l.length * 2) := Lib.hid (by rw [wCells_length]; omega)
          have H63 : Hid ((L k).length + l.length ≤ maxLen) := Lib.hid (by unfold maxLen; omega)
          have HBY : Hid (((L k).length + l.length) * 24 ≤ 140737488355328) := Lib.hid (by omega)
          have HBA : Hid (w.heap.size ≤ wr.heap.size) := Lib.hid HW.out.size
          clear hQ hac hcell
          go_wp2_with (at_builtin; refine wpList_append_src rfl (.tmp 31) (.tmp 32) 30 rfl w.heap.size 36 i0 _ 2 24 Tryd.underlying30 hi0 hz0 hz1 hz2 rfl (by decide) _ _ _ rfl HO.out w.heap.size Q l.length q (wCells l) rfl HS1.out HQ.out (wCells_one l) H63.out HBY.out HBA.out ?_; intro v' w3 hown' hgrow)
          have HO3 : Hid (Own2 w3 w.heap.size v' (L (k + 1))) := Lib.hid (by
            rw [HAC.out]; unfold Own2
            rw [List.length_append, wCells_append]; exact hown')
          have HB3 : Hid (Below w.heap.size w w3) := Lib.hid (HW.out.grown hgrow HBA.out (own_ge HO.out))
          clear hown' hgrow
          go_wp2_with fail
          go_roundw
          case rel =>
            have R : ∃ k' : Nat, k' ≤ 2 ∧ Value.int .i64 ((k : Int) + 1) = .int .i64 k' ∧ Hid (Own2 w3 w.heap.size v' (L k')) ∧ Hid (Below w.heap.size w w3) := ⟨k + 1, by omega, by go_num, HO3, HB3⟩
            first | exact R | ((repeat apply Exists.intro); exact ⟨R, rfl⟩)
          case measure => simp [intOf]; omega
        · obtain rfl : k = 2 := by omega
          have hd : decide (((2 : Nat) : Int) < 2) = false := by simp
          rw [HL2.out] at HO
          go_wp2_with fail
          go_ret
          exact ⟨⟨_, rfl, HO.out⟩, HW.out⟩
end Go.Proofs.YtecamaceainfpaaDoor
