/-
  Walk: delta.others.
-/
import Derived.Test.YtecamaceainfpaaDoorBytes
namespace Go.Proofs.YtecamaceainfpaaDoor
open Go.RowKit

/-- writes, as cells -/
def wCells (ws : List (Int × List UInt8)) : List Value := ws.flatMap fun p => [Value.int .i64 p.1, S p.2]
theorem wCells_append (a b : List (Int × List UInt8)) : wCells (a ++ b) = wCells a ++ wCells b := by simp [wCells]
theorem wCells_length (ws : List (Int × List UInt8)) : (wCells ws).length = 2 * ws.length := by
  induction ws with
  | nil => rfl
  | cons p ws ih =>
    have : wCells (p :: ws) = [Value.int .i64 p.1, S p.2] ++ wCells ws := by simp [wCells]
    rw [this, List.length_append, ih]; simp; omega
/-- those of b that a has not, or that are others in a; of the first k -/
def othersTo (a b : List (List UInt8)) (k : Nat) : List (Int × List UInt8) := (List.range k).filterMap fun i => if i < a.length ∧ a.getD i [] = b.getD i [] then none else some ((i : Int), b.getD i [])
theorem othersTo_same {a b : List (List UInt8)} {k : Nat} (h : k < a.length) (e : a.getD k [] = b.getD k []) : othersTo a b (k + 1) = othersTo a b k := by
  unfold othersTo; rw [List.range_succ, List.filterMap_append]; simp only [List.filterMap_cons, List.filterMap_nil, if_pos (And.intro h e), List.append_nil]
theorem othersTo_new {a b : List (List UInt8)} {k : Nat} (h : ¬ (k < a.length ∧ a.getD k [] = b.getD k [])) : othersTo a b (k + 1) = othersTo a b k ++ [((k : Int), b.getD k [])] := by
  unfold othersTo; rw [List.range_succ, List.filterMap_append]; simp only [List.filterMap_cons, List.filterMap_nil, if_neg h]
theorem othersTo_le (a b : List (List UInt8)) (k : Nat) : (othersTo a b k).length ≤ k := by
  unfold othersTo
  exact Nat.le_trans (List.length_filterMap_le _ _) (by simp)

theorem own_ge {w : World} {base : Nat} {e : TypeId} {size n : Nat} {v : Value} {xs : List Value} (h : w.ownsRow base e size v n xs) : ∀ g, v.ownBlock = some g → base ≤ g := by
  intro g hg
  rcases h.2 with ⟨rfl, _⟩ | ⟨g', cap, cur, rfl, hb, _⟩
  · simp [Value.ownBlock] at hg
  · have : g' = g := by simpa [Value.ownBlock] using hg
    subst this; exact hb
theorem Tryd.infoWrite : (Tryd.prog.info? 36).map (fun i => (i.zero, i.size, i.bytes)) = some (some (.agg #[.int .i64 0, .string ⟨#[]⟩]), 2, 24) := by kernel_rfl

set_option maxRecDepth 100000 in
set_option maxHeartbeats 1000000 in
theorem others_any (w : World) (A A' : Option Addr) (c c' : Nat) (a b : List (List UInt8)) (hA : Strs w w.heap.size A a) (hA' : Strs w w.heap.size A' b) (ha : a.length ≤ 1099511627776) (hb : b.length ≤ 1099511627776) :
    Calls Tryd.prog 40 #[.slice A a.length c, .slice A' b.length c'] w fun e w' => (∃ v, e = .returned v ∧ w'.ownsRow w.heap.size 36 2 v (othersTo a b b.length).length (wCells (othersTo a b b.length))) ∧ Below w.heap.size w w' := by
  obtain ⟨i0, hi0, hz0, hz1, hz2⟩ := info_parts Tryd.infoWrite
  have HA := Lib.hid hA
  have HA' := Lib.hid hA'
  clear hA hA'
  go_enter Tryd.func40, Tryd.ntmps40
  go_wp2
  go_loopw [5, 10] (fun v i wr => ∃ k : Nat, k ≤ b.length ∧ i = .int .i64 k ∧ Hid (wr.ownsRow w.heap.size 36 2 v (othersTo a b k).length (wCells (othersTo a b k))) ∧ Hid (Below w.heap.size w wr)) (fun _ i _ => b.length - (intOf i).toNat)
  case atStart => exact ⟨0, by omega, rfl, Lib.hid (World.ownsRow_nil _ _ _ _), Lib.hid (Below.refl _ _)⟩
  case round =>
    obtain ⟨k, hk, rfl, HO, HB⟩ := hrel
    by_cases hlt : k < b.length
    · obtain ⟨ad, rfl, had, hc⟩ := HA'.out.at' hlt
      have hcr : wr.cell? (ad.add k) = some (S (b.getD k [])) := (HB.out.cell (by unfold Addr.add; split <;> exact had)).trans hc
      clear hc
      by_cases hka : k < a.length
      · obtain ⟨ad2, rfl, had2, hc2⟩ := HA.out.at' hka
        have hcr2 : wr.cell? (ad2.add k) = some (S (a.getD k [])) := (HB.out.cell (by unfold Addr.add; split <;> exact had2)).trans hc2
        clear hc2
        have hd : decide (a.length ≤ k) = false := by simp; omega
        by_cases hxy : a.getD k [] = b.getD k []
        · have HE := Lib.hid (othersTo_same hka hxy)
          have hbe : (a.getD k [] == b.getD k []) = true := beq_iff_eq.2 hxy
          clear hxy
          generalize a.getD k [] = x at *
          generalize b.getD k [] = y at *
          go_wp2
          go_roundw
          case rel =>
            have R : ∃ k' : Nat, k' ≤ b.length ∧ Value.int .i64 ((k : Int) + 1) = .int .i64 k' ∧ Hid (wr.ownsRow w.heap.size 36 2 u5 (othersTo a b k').length (wCells (othersTo a b k'))) ∧ Hid (Below w.heap.size w wr) := ⟨k + 1, by omega, by go_num, by rw [HE.out]; exact HO, HB⟩
            first | exact R | ((repeat apply Exists.intro); exact ⟨R, rfl⟩)
          case measure => simp [intOf]; omega
        · have HE := Lib.hid (othersTo_new (a := a) (b := b) (k := k) (fun h => hxy h.2))
          have hbe : (a.getD k [] == b.getD k []) = false := beq_eq_false_iff_ne.2 hxy
          clear hxy
          generalize a.getD k [] = x at *
          generalize b.getD k [] = y at *
          have hnews : ∀ j u, [Value.int .i64 (k : Int), S y][j]? = some u → (wr.alloc (.cells #[.int .i64 (k : Int), S y] 36)).cell? ((⟨wr.heap.size, 0, none⟩ : Addr).add j) = some u := fun j u hu => by
            obtain ⟨ad', e', _, hc'⟩ := lies_made wr 36 [Value.int .i64 (k : Int), S y] (wr.heap.size + 1) (by omega) j u hu
            injection e' with e'; subst e'; exact hc'
          have HN := Lib.hid hnews
          have H1 : Hid (∀ u ∈ [Value.int .i64 (k : Int), S y], u.oneCell' = true) := Lib.hid (by simp [Value.oneCell'])
          have hle := othersTo_le a b k
          have H63 : Hid ((othersTo a b k).length + 1 ≤ maxLen) := Lib.hid (by unfold maxLen; omega)
          have HBY : Hid (((othersTo a b k).length + 1) * 24 ≤ 140737488355328) := Lib.hid (by omega)
          have HBA : Hid (w.heap.size ≤ (wr.alloc (.cells #[.int .i64 (k : Int), S y] 36)).heap.size) := Lib.hid (by have := HB.out.size; simp; omega)
          have HOA := Lib.hid (HO.out.alloc (.cells #[.int .i64 (k : Int), S y] 36))
          clear hnews hle
          go_wp2_with (at_builtin; refine wpList_append_own _ rfl (.tmp 27) (.tmp 31) 30 rfl w.heap.size 36 i0 _ 2 24 Tryd.underlying30 hi0 hz0 hz1 hz2 rfl (by decide) _ _ _ rfl HOA.out ⟨wr.heap.size, 0, none⟩ 1 1 [.int .i64 (k : Int), S y] rfl rfl HN.out H1.out H63.out HBY.out HBA.out ?_; intro v' w1 hown' hgrow _)
          have HO1 : Hid (w1.ownsRow w.heap.size 36 2 v' (othersTo a b (k + 1)).length (wCells (othersTo a b (k + 1)))) := Lib.hid (by
            rw [HE.out, List.length_append, wCells_append]
            exact hown')
          have HB1 : Hid (Below w.heap.size w w1) := Lib.hid ((HB.out.alloc HB.out.size _).grown hgrow HBA.out (own_ge HO.out))
          clear hown' hgrow
          go_wp2
          go_roundw
          case rel =>
            have R : ∃ k' : Nat, k' ≤ b.length ∧ Value.int .i64 ((k : Int) + 1) = .int .i64 k' ∧ Hid (w1.ownsRow w.heap.size 36 2 v' (othersTo a b k').length (wCells (othersTo a b k'))) ∧ Hid (Below w.heap.size w w1) := ⟨k + 1, by omega, by go_num, HO1, HB1⟩
            first | exact R | ((repeat apply Exists.intro); exact ⟨R, rfl⟩)
          case measure => simp [intOf]; omega
      · have hd : decide (a.length ≤ k) = true := by simp; omega
        have HE := Lib.hid (othersTo_new (a := a) (b := b) (k := k) (fun h => hka h.1))
        generalize b.getD k [] = y at *
        have hnews : ∀ j u, [Value.int .i64 (k : Int), S y][j]? = some u → (wr.alloc (.cells #[.int .i64 (k : Int), S y] 36)).cell? ((⟨wr.heap.size, 0, none⟩ : Addr).add j) = some u := fun j u hu => by
          obtain ⟨ad', e', _, hc'⟩ := lies_made wr 36 [Value.int .i64 (k : Int), S y] (wr.heap.size + 1) (by omega) j u hu
          injection e' with e'; subst e'; exact hc'
        have HN := Lib.hid hnews
        have H1 : Hid (∀ u ∈ [Value.int .i64 (k : Int), S y], u.oneCell' = true) := Lib.hid (by simp [Value.oneCell'])
        have hle := othersTo_le a b k
        have H63 : Hid ((othersTo a b k).length + 1 ≤ maxLen) := Lib.hid (by unfold maxLen; omega)
        have HBY : Hid (((othersTo a b k).length + 1) * 24 ≤ 140737488355328) := Lib.hid (by omega)
        have HBA : Hid (w.heap.size ≤ (wr.alloc (.cells #[.int .i64 (k : Int), S y] 36)).heap.size) := Lib.hid (by have := HB.out.size; simp; omega)
        have HOA := Lib.hid (HO.out.alloc (.cells #[.int .i64 (k : Int), S y] 36))
        clear hnews hle
        go_wp2_with (at_builtin; refine wpList_append_own _ rfl (.tmp 27) (.tmp 31) 30 rfl w.heap.size 36 i0 _ 2 24 Tryd.underlying30 hi0 hz0 hz1 hz2 rfl (by decide) _ _ _ rfl HOA.out ⟨wr.heap.size, 0, none⟩ 1 1 [.int .i64 (k : Int), S y] rfl rfl HN.out H1.out H63.out HBY.out HBA.out ?_; intro v' w1 hown' hgrow _)
        have HO1 : Hid (w1.ownsRow w.heap.size 36 2 v' (othersTo a b (k + 1)).length (wCells (othersTo a b (k + 1)))) := Lib.hid (by
          rw [HE.out, List.length_append, wCells_append]
          exact hown')
        have HB1 : Hid (Below w.heap.size w w1) := Lib.hid ((HB.out.alloc HB.out.size _).grown hgrow HBA.out (own_ge HO.out))
        clear hown' hgrow
        go_wp2
        go_roundw
        case rel =>
          have R : ∃ k' : Nat, k' ≤ b.length ∧ Value.int .i64 ((k : Int) + 1) = .int .i64 k' ∧ Hid (w1.ownsRow w.heap.size 36 2 v' (othersTo a b k').length (wCells (othersTo a b k'))) ∧ Hid (Below w.heap.size w w1) := ⟨k + 1, by omega, by go_num, HO1, HB1⟩
          first | exact R | ((repeat apply Exists.intro); exact ⟨R, rfl⟩)
        case measure => simp [intOf]; omega
    · obtain rfl : k = b.length := by omega
      go_wp2
      go_ret
      exact ⟨⟨_, rfl, HO.out⟩, HB.out⟩
end Go.Proofs.YtecamaceainfpaaDoor
