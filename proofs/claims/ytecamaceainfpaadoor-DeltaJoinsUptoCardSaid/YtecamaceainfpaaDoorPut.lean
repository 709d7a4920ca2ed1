/-
  Walks: hibernacleref35.put, both; slices.Clone at writes.
-/
import Derived.Test.YtecamaceainfpaaDoorSortH
namespace Go.Proofs.YtecamaceainfpaaDoor
open Go.RowKit

set_option maxRecDepth 100000 in
/-- one write appended to a row of the call's own -/
theorem wpList_append_w {ops : Array Oper} {rest : List Oper} {o : Oper} {a : Act} {Q : Exit → Act → World → Prop} (hgd : o.guard = none) (s x : Operand)
    (ho : o.op = .call { callee := .builtin .append, args := #[s, x], argTypes := #[30, 30] })
    (w0 W : World) (v : Value) (acc : List Wr) (n : Int) (y : List UInt8) (g : Nat) (hs : a.eval s = v) (hown : Own2 W w0.heap.size v acc) (hg : g = W.heap.size) (hx : a.eval x = .slice (some ⟨g, 0, none⟩) 1 1) (hlen : acc.length ≤ 1099511627776) (hB : Below w0.heap.size w0 W)
    (h : ∀ v' w', Hid (Own2 w' w0.heap.size v' (acc ++ [(n, y)])) → Hid (Below w0.heap.size w0 w') → wpList Tryd.prog ops Q rest (a.put o.dst v') w') : wpList Tryd.prog ops Q (o :: rest) a (W.alloc (.cells #[.int .i64 n, S y] 36)) := by
  obtain ⟨i0, hi0, hz0, hz1, hz2⟩ := info_parts Tryd.infoWrite
  have hba : w0.heap.size ≤ (W.alloc (.cells #[.int .i64 n, S y] 36)).heap.size := by have := hB.size; simp; omega
  refine wpList_append_own _ hgd s x 30 ho w0.heap.size 36 i0 _ 2 24 Tryd.underlying30 hi0 hz0 hz1 hz2 rfl (by decide) v acc.length (wCells acc) hs (World.ownsRow.alloc hown _) ⟨g, 0, none⟩ 1 1 [.int .i64 n, S y] hx rfl (fun j u hu => ?_) (by simp [Value.oneCell']) (by unfold maxLen; omega) (by omega) hba ?_
  · obtain ⟨ad', e', _, hc'⟩ := lies_made W 36 [Value.int .i64 n, S y] (W.heap.size + 1) (by omega) j u hu
    have e2 : (⟨W.heap.size, 0, none⟩ : Addr) = ad' := Option.some.inj e'
    rw [hg, e2]; exact hc'
  · intro v' w' h2 h3 _
    refine h v' w' (Lib.hid ?_) (Lib.hid ((hB.alloc hB.size _).grown h3 hba (own_ge hown)))
    have e : wCells (acc ++ [(n, y)]) = wCells acc ++ [.int .i64 n, S y] := by rw [wCells_append]; rfl
    unfold Own2
    rw [e, List.length_append]; exact h2
/-- writes with one more: what is laid behind k of them, and whether it is laid -/
def putP (l : List Wr) (p : Wr) : Nat → List Wr × Bool
  | 0 => ([], false)
  | k + 1 =>
    if K l k = p.1 then ((putP l p k).1 ++ [p], true)
    else if (putP l p k).2 = false ∧ p.1 < K l k then (((putP l p k).1 ++ [p]) ++ [l.getD k (0, [])], true)
    else ((putP l p k).1 ++ [l.getD k (0, [])], (putP l p k).2)
def putL (l : List Wr) (p : Wr) : List Wr := if (putP l p l.length).2 = true then (putP l p l.length).1 else (putP l p l.length).1 ++ [p]
theorem putP_len (l : List Wr) (p : Wr) : ∀ k, (putP l p k).1.length ≤ 2 * k
  | 0 => by simp [putP]
  | k + 1 => by
    have := putP_len l p k
    unfold putP
    split
    · simp; omega
    · split <;> (simp; omega)
def putPair (l : List Wr) (p : Wr) (k : Nat) (o : List Wr) (b : Bool) : Prop := putP l p k = (o, b)
set_option maxRecDepth 100000 in
set_option maxHeartbeats 2000000 in
theorem put_any (w : World) (A : Option Addr) (c : Nat) (l : List Wr) (n : Int) (y : List UInt8) (hA : Wrs w w.heap.size A l) (hl : l.length ≤ 274877906944) :
    Calls Tryd.prog 77 #[.slice A l.length c, .agg #[.int .i64 n, S y]] w fun e w' => (∃ v, e = .returned v ∧ Own2 w' w.heap.size v (putL l (n, y))) ∧ Below w.heap.size w w' := by
  have HA := Lib.hid hA
  have hx := Whole.made w 36 #[.int .i64 n, S y]
  have HB00 := Lib.hid ((Below.refl w.heap.size w).alloc (Nat.le_refl _) (.cells #[.int .i64 n, S y] 36))
  have HZ0 : Hid ((w.alloc (.cells #[.int .i64 n, S y] 36)).heap.size = w.heap.size + 1) := Lib.hid (by simp)
  have HW0 := Lib.hid ((Below.refl (w.alloc (.cells #[.int .i64 n, S y] 36)).heap.size (w.alloc (.cells #[.int .i64 n, S y] 36))).alloc (Nat.le_refl _) (.cells #[] 36))
  have HO0 : Hid (Own2 ((w.alloc (.cells #[.int .i64 n, S y] 36)).alloc (.cells #[] 36)) (w.alloc (.cells #[.int .i64 n, S y] 36)).heap.size (.slice (some ⟨w.heap.size + 1, 0, none⟩) 0 0) []) := Lib.hid (by
    have := World.ownsRow_lit (w.alloc (.cells #[.int .i64 n, S y] 36)) (e := 36) (size := 2) (base := (w.alloc (.cells #[.int .i64 n, S y] 36)).heap.size) #[] 0 (by simp) (by unfold maxLen; omega) rfl
    rw [show (⟨(w.alloc (.cells #[.int .i64 n, S y] 36)).heap.size, 0, none⟩ : Addr) = ⟨w.heap.size + 1, 0, none⟩ by simp] at this
    exact this)
  have HX := Lib.hid hx
  have HP0 : Hid (putP l (n, y) 0 = ([], false)) := Lib.hid rfl
  have HPL := Lib.hid (putP_len l (n, y))
  have HPE : Hid (∀ k, K l k = n → putP l (n, y) (k + 1) = ((putP l (n, y) k).1 ++ [(n, y)], true)) := Lib.hid fun k h => by rw [putP, if_pos h]
  have HPI : Hid (∀ k, K l k ≠ n → (putP l (n, y) k).2 = false → n < K l k → putP l (n, y) (k + 1) = (((putP l (n, y) k).1 ++ [(n, y)]) ++ [l.getD k (0, [])], true)) := Lib.hid fun k h h1 h2 => by rw [putP, if_neg h, if_pos ⟨h1, h2⟩]
  have HPO : Hid (∀ k, K l k ≠ n → ¬ ((putP l (n, y) k).2 = false ∧ n < K l k) → putP l (n, y) (k + 1) = ((putP l (n, y) k).1 ++ [l.getD k (0, [])], (putP l (n, y) k).2)) := Lib.hid fun k h h1 => by rw [putP, if_neg h, if_neg h1]
  have HPT : Hid ((putP l (n, y) l.length).2 = true → putL l (n, y) = (putP l (n, y) l.length).1) := Lib.hid fun h => by unfold putL; rw [if_pos h]
  have HPF : Hid ((putP l (n, y) l.length).2 = false → putL l (n, y) = (putP l (n, y) l.length).1 ++ [(n, y)]) := Lib.hid fun h => by unfold putL; rw [if_neg (by rw [h]; decide)]
  clear hA hx
  go_enter Tryd.func77, Tryd.ntmps77
  go_wp2_with fail
  change Code.wp _ _ _ _ ((w.alloc (.cells #[.int .i64 n, S y] 36)).alloc (.cells #[] 36))
  generalize (w.alloc (.cells #[.int .i64 n, S y] 36)).alloc (.cells #[] 36) = w1 at *
  generalize w.alloc (.cells #[.int .i64 n, S y] 36) = w0 at *
  have HKEEP : Hid (∀ W, Below w0.heap.size w0 W → W.cell? ⟨w.heap.size, 0, none⟩ = some (.int .i64 n) ∧ W.cell? ⟨w.heap.size, 1, none⟩ = some (S y) ∧ Wrs W w.heap.size A l) := Lib.hid fun W hW => by
    have h1 := HX.out.below hW (by rw [HZ0.out]; omega)
    exact ⟨h1.cell 0, h1.cell 1, (Lies.below HA.out HB00.out).below (hW.mono (by rw [HZ0.out]; omega))⟩
  clear HX HA
  go_loopw [5, 6, 7] (fun v b i wr => ∃ k : Nat, k ≤ l.length ∧ i = .int .i64 k ∧ (∃ bb : Bool, b = .bool bb ∧ Hid ((putP l (n, y) k).2 = bb)) ∧ Hid (Own2 wr w0.heap.size v (putP l (n, y) k).1) ∧ Hid (Below w0.heap.size w0 wr)) (fun _ _ i _ => l.length - (intOf i).toNat)
  case atStart => exact ⟨0, by omega, rfl, ⟨false, rfl, Lib.hid rfl⟩, HO0, HW0⟩
  case round =>
    obtain ⟨k, hk, rfl, ⟨bb, rfl, HBB⟩, HO, HW⟩ := hrel
    clear HO0 HW0
    obtain ⟨x0, x1, hwl⟩ := HKEEP.out _ HW.out
    have hol := HPL.out k
    obtain ⟨acc, HACC⟩ : ∃ z, Hid ((putP l (n, y) k).1 = z) := ⟨_, Lib.hid rfl⟩
    rw [HACC.out] at HO hol
    by_cases hlt : k < l.length
    · obtain ⟨bd, rfl, hbd, b0, b1⟩ := hwl.at' hlt
      have HE := Lib.hid (HPE.out k)
      have HI := Lib.hid (HPI.out k)
      have HN := Lib.hid (HPO.out k)
      rw [HACC.out] at HE HI HN
      rw [HBB.out] at HI HN
      obtain ⟨m, hm⟩ : ∃ m, K l k = m := ⟨_, rfl⟩
      have hm' : (l.getD k (0, [])).1 = m := hm
      rw [hm] at HE HI HN
      rw [hm'] at b0
      obtain ⟨z, hz⟩ : ∃ z, l.getD k (0, []) = (m, z) := ⟨(l.getD k (0, [])).2, by rw [← hm']⟩
      rw [hz] at HI HN b1
      dsimp only at b1
      have HKK := Lib.hid hz
      clear hm hm' hz hwl
      have i0' : (0 : Int) ≤ (k : Int) := by omega
      have i1 : (k : Int) < (l.length : Int) := by omega
      have hd : decide (k < l.length) = true := by simp; omega
      by_cases heq : m = n
      · subst heq
        have HNX := Lib.hid (HE.out rfl)
        clear HE HI HN
        go_wp2_with fail
        go_quiet (fail)
        have HOq := Lib.hid (HO.out.drews nq)
        have HBq := Lib.hid (Below.draws HW.out nq)
        have x0' : (wr.drewN nq).cell? ⟨w.heap.size, 0, none⟩ = some (.int .i64 m) := x0
        have x1' : (wr.drewN nq).cell? ⟨w.heap.size, 1, none⟩ = some (S y) := x1
        clear x0 x1 b0 b1
        generalize wr.drewN nq = wq at *
        go_wp2_with (at_builtin; refine wpList_append_w rfl (.tmp 23) (.tmp 25) rfl w0 wq _ acc m y wq.heap.size rfl HOq.out rfl rfl (by omega) HBq.out ?_; intro v' w3 HO3 HB3)
        go_wp2_with fail
        go_roundw
        case rel =>
          have R : ∃ k' : Nat, k' ≤ l.length ∧ Value.int .i64 ((k : Int) + 1) = .int .i64 k' ∧ (∃ b' : Bool, Value.bool true = .bool b' ∧ Hid ((putP l (m, y) k').2 = b')) ∧ Hid (Own2 w3 w0.heap.size v' (putP l (m, y) k').1) ∧ Hid (Below w0.heap.size w0 w3) := ⟨k + 1, by omega, by go_num, ⟨true, rfl, Lib.hid (by rw [HNX.out])⟩, Lib.hid (by rw [HNX.out]; exact HO3.out), HB3⟩
          first | exact R | ((repeat apply Exists.intro); exact ⟨R, rfl⟩)
        case measure => simp [intOf]; omega
      · have HCELL : Hid (∀ W, Below w0.heap.size w0 W → W.cell? (bd.add (k * 2)) = some (.int .i64 m) ∧ W.cell? ⟨(bd.add (k * 2)).block, (bd.add (k * 2)).off + 1, none⟩ = some (S z)) := Lib.hid fun W hW => by
          obtain ⟨_, _, h⟩ := HKEEP.out W hW
          obtain ⟨bd', e, hb, q0, q1⟩ := h.at' hlt
          injection e with e
          subst e
          rw [HKK.out] at q0 q1
          exact ⟨q0, q1⟩
        have dq : (m == n) = false := by simp [heq]
        cases bb with
        | true =>
          have HNX := Lib.hid (HN.out heq (fun h => by cases h.1))
          clear HE HI HN heq
          go_wp2_with fail
          go_quiet (fail)
          have HOq := Lib.hid (HO.out.drews nq)
          have HBq := Lib.hid (Below.draws HW.out nq)
          clear x0 x1 b0 b1
          generalize wr.drewN nq = wq at *
          obtain ⟨x0, x1, _⟩ := HKEEP.out _ HBq.out
          obtain ⟨b0, b1⟩ := HCELL.out _ HBq.out
          clear HO HW
          go_wp2_with fail
          go_quiet (fail)
          have HOx := Lib.hid (HOq.out.drews nq)
          have HBx := Lib.hid (Below.draws HBq.out nq)
          clear x0 x1 b0 b1 HOq HBq
          generalize wq.drewN nq = wx at *
          obtain ⟨c0, c1⟩ := HCELL.out _ HBx.out
          go_wp2_with (at_builtin; refine wpList_append_w rfl (.tmp 43) (.tmp 48) rfl w0 wx _ acc m z wx.heap.size rfl HOx.out rfl rfl (by omega) HBx.out ?_; intro v' w3 HO3 HB3)
          clear c0 c1
          go_wp2_with fail
          go_roundw
          case rel =>
            have R : ∃ k' : Nat, k' ≤ l.length ∧ Value.int .i64 ((k : Int) + 1) = .int .i64 k' ∧ (∃ b' : Bool, Value.bool true = .bool b' ∧ Hid ((putP l (n, y) k').2 = b')) ∧ Hid (Own2 w3 w0.heap.size v' (putP l (n, y) k').1) ∧ Hid (Below w0.heap.size w0 w3) := ⟨k + 1, by omega, by go_num, ⟨true, rfl, Lib.hid (by rw [HNX.out])⟩, Lib.hid (by rw [HNX.out]; exact HO3.out), HB3⟩
            first | exact R | ((repeat apply Exists.intro); exact ⟨R, rfl⟩)
          case measure => simp [intOf]; omega
        | false =>
          by_cases hlt2 : n < m
          · have HNX := Lib.hid (HI.out heq rfl hlt2)
            have d2 : decide (n < m) = true := by simp; omega
            clear HE HI HN heq
            go_wp2_with fail
            go_quiet (fail)
            have HOq := Lib.hid (HO.out.drews nq)
            have HBq := Lib.hid (Below.draws HW.out nq)
            clear x0 x1 b0 b1
            generalize wr.drewN nq = wq at *
            obtain ⟨x0, x1, _⟩ := HKEEP.out _ HBq.out
            obtain ⟨b0, b1⟩ := HCELL.out _ HBq.out
            clear HO HW
            go_wp2_with fail
            go_quiet (fail)
            have HOx := Lib.hid (HOq.out.drews nq)
            have HBx := Lib.hid (Below.draws HBq.out nq)
            clear x0 x1 b0 b1 HOq HBq
            generalize wq.drewN nq = wx at *
            obtain ⟨x0, x1, _⟩ := HKEEP.out _ HBx.out
            go_wp2_with (first
              | (at_builtin; refine wpList_append_w rfl (.tmp 39) (.tmp 41) rfl w0 wx _ acc n y wx.heap.size rfl HOx.out rfl rfl (by omega) HBx.out ?_; intro v2 w2 HO2 HB2; obtain ⟨c0, c1⟩ := HCELL.out _ HB2.out)
              | (at_builtin; refine wpList_append_w rfl (.tmp 43) (.tmp 48) rfl w0 w2 _ (acc ++ [(n, y)]) m z w2.heap.size rfl HO2.out rfl rfl (by rw [List.length_append]; simp only [List.length_cons, List.length_nil]; omega) HB2.out ?_; intro v' w3 HO3 HB3))
            clear c0 c1
            go_wp2_with fail
            go_roundw
            case rel =>
              have R : ∃ k' : Nat, k' ≤ l.length ∧ Value.int .i64 ((k : Int) + 1) = .int .i64 k' ∧ (∃ b' : Bool, Value.bool true = .bool b' ∧ Hid ((putP l (n, y) k').2 = b')) ∧ Hid (Own2 w3 w0.heap.size v' (putP l (n, y) k').1) ∧ Hid (Below w0.heap.size w0 w3) := ⟨k + 1, by omega, by go_num, ⟨true, rfl, Lib.hid (by rw [HNX.out])⟩, Lib.hid (by rw [HNX.out]; exact HO3.out), HB3⟩
              first | exact R | ((repeat apply Exists.intro); exact ⟨R, rfl⟩)
            case measure => simp [intOf]; omega
          · have HNX := Lib.hid (HN.out heq (fun h => hlt2 h.2))
            have d2 : decide (n < m) = false := by simp; omega
            clear HE HI HN heq
            go_wp2_with fail
            go_quiet (fail)
            have HOq := Lib.hid (HO.out.drews nq)
            have HBq := Lib.hid (Below.draws HW.out nq)
            clear x0 x1 b0 b1
            generalize wr.drewN nq = wq at *
            obtain ⟨x0, x1, _⟩ := HKEEP.out _ HBq.out
            obtain ⟨b0, b1⟩ := HCELL.out _ HBq.out
            clear HO HW
            go_wp2_with fail
            go_quiet (fail)
            have HOx := Lib.hid (HOq.out.drews nq)
            have HBx := Lib.hid (Below.draws HBq.out nq)
            clear x0 x1 b0 b1 HOq HBq
            generalize wq.drewN nq = wx at *
            obtain ⟨c0, c1⟩ := HCELL.out _ HBx.out
            go_wp2_with (at_builtin; refine wpList_append_w rfl (.tmp 43) (.tmp 48) rfl w0 wx _ acc m z wx.heap.size rfl HOx.out rfl rfl (by omega) HBx.out ?_; intro v' w3 HO3 HB3)
            clear c0 c1
            go_wp2_with fail
            go_roundw
            case rel =>
              have R : ∃ k' : Nat, k' ≤ l.length ∧ Value.int .i64 ((k : Int) + 1) = .int .i64 k' ∧ (∃ b' : Bool, Value.bool false = .bool b' ∧ Hid ((putP l (n, y) k').2 = b')) ∧ Hid (Own2 w3 w0.heap.size v' (putP l (n, y) k').1) ∧ Hid (Below w0.heap.size w0 w3) := ⟨k + 1, by omega, by go_num, ⟨false, rfl, Lib.hid (by rw [HNX.out])⟩, Lib.hid (by rw [HNX.out]; exact HO3.out), HB3⟩
              first | exact R | ((repeat apply Exists.intro); exact ⟨R, rfl⟩)
            case measure => simp [intOf]; omega
    · obtain rfl : k = l.length := by omega
      have hd : decide (l.length < l.length) = false := by simp
      cases bb with
      | true =>
        have HNX := Lib.hid (HPT.out HBB.out)
        rw [HACC.out] at HNX
        go_wp2_with fail
        go_ret
        exact ⟨⟨_, rfl, by rw [HNX.out]; exact World.ownsRow.mono HO.out (by rw [HZ0.out]; omega)⟩, HB00.out.trans (HW.out.mono (by rw [HZ0.out]; omega))⟩
      | false =>
        have HNX := Lib.hid (HPF.out HBB.out)
        rw [HACC.out] at HNX
        go_wp2_with (at_builtin; refine wpList_append_w rfl (.tmp 52) (.tmp 54) rfl w0 wr _ acc n y wr.heap.size rfl HO.out rfl rfl (by omega) HW.out ?_; intro v' w3 HO3 HB3)
        go_wp2_with fail
        go_ret
        exact ⟨⟨_, rfl, by rw [HNX.out]; exact World.ownsRow.mono HO3.out (by rw [HZ0.out]; omega)⟩, HB00.out.trans (HB3.out.mono (by rw [HZ0.out]; omega))⟩
theorem putP_len2 (l : List Wr) (p : Wr) : ∀ k, (putP l p k).1.length ≤ k + 1 ∧ ((putP l p k).2 = false → (putP l p k).1.length ≤ k)
  | 0 => by simp [putP]
  | k + 1 => by
    obtain ⟨h1, h2⟩ := putP_len2 l p k
    unfold putP
    split
    · exact ⟨by simp; omega, fun h => by cases h⟩
    · split
      · rename_i h
        have := h2 h.1
        exact ⟨by simp; omega, fun h => by cases h⟩
      · exact ⟨by simp; omega, fun h => by have := h2 h; simp; omega⟩
theorem putL_len (l : List Wr) (p : Wr) : (putL l p).length ≤ l.length + 1 := by
  obtain ⟨h1, h2⟩ := putP_len2 l p l.length
  unfold putL
  split
  · exact h1
  · rename_i h
    have := h2 (by simpa using h)
    simp; omega
/-- writes of two, one behind the other -/
def bothFrom (acc : List Wr) (l : List Wr) : List Wr := l.foldl putL acc
def bothL (a b : List Wr) : List Wr := bothFrom (bothFrom [] a) b
theorem bothFrom_snoc (acc l : List Wr) {k : Nat} (hk : k < l.length) : bothFrom acc (l.take (k + 1)) = putL (bothFrom acc (l.take k)) (l.getD k (0, [])) := by
  unfold bothFrom
  rw [List.take_succ_eq_append_getElem hk, List.foldl_append]
  simp [List.getD, hk]
theorem bothFrom_len (acc l : List Wr) : ∀ k, k ≤ l.length → (bothFrom acc (l.take k)).length ≤ acc.length + k
  | 0, _ => by simp [bothFrom]
  | k + 1, hk => by
    rw [bothFrom_snoc acc l (by omega)]
    have := putL_len (bothFrom acc (l.take k)) (l.getD k (0, []))
    have := bothFrom_len acc l k (by omega)
    omega
/-- a slice of writes as a value -/
def IsW (B : Nat) (W : World) (v : Value) (ws : List Wr) : Prop := ∃ A c, v = .slice A ws.length c ∧ Wrs W W.heap.size A ws ∧ ∀ ad, A = some ad → B ≤ ad.block
theorem IsW.mono {B B' : Nat} {W : World} {v : Value} {ws : List Wr} (h : IsW B W v ws) (hb : B' ≤ B) : IsW B' W v ws := by
  obtain ⟨A, c, e, h1, h2⟩ := h
  exact ⟨A, c, e, h1, fun ad ha => Nat.le_trans hb (h2 ad ha)⟩
theorem IsW.of_own {W : World} {base : Nat} {v : Value} {ws : List Wr} (h : Own2 W base v ws) : IsW base W v ws := by
  obtain ⟨A, c, e, h1, h2⟩ := own_shape h (by decide)
  exact ⟨A, c, e, h1, h2⟩
theorem put_is (w : World) (B : Nat) (v : Value) (l : List Wr) (n : Int) (y : List UInt8) (hv : IsW B w v l) (hl : l.length ≤ 274877906944) :
    Calls Tryd.prog 77 #[v, .agg #[.int .i64 n, S y]] w fun e w' => (∃ v', e = .returned v' ∧ Hid (IsW w.heap.size w' v' (putL l (n, y)))) ∧ Below w.heap.size w w' := by
  obtain ⟨A, c, rfl, h, _⟩ := hv
  refine (put_any w A c l n y h hl).mono fun e w' h => ⟨?_, h.2⟩
  obtain ⟨v', e1, ho⟩ := h.1
  exact ⟨v', e1, Lib.hid (IsW.of_own ho)⟩
set_option maxRecDepth 100000 in
set_option maxHeartbeats 2000000 in
theorem both_any (w : World) (A B : Option Addr) (c d : Nat) (a b : List Wr) (hA : Wrs w w.heap.size A a) (hB : Wrs w w.heap.size B b) (ha : a.length ≤ 137438953472) (hb : b.length ≤ 137438953472) :
    Calls Tryd.prog 49 #[.slice A a.length c, .slice B b.length d] w fun e w' => (∃ v, e = .returned v ∧ IsW w.heap.size w' v (bothL a b)) ∧ Below w.heap.size w w' := by
  have HA := Lib.hid hA
  have HB := Lib.hid hB
  have HI0 : Hid (IsW w.heap.size (w.alloc (.cells #[] 36)) (.slice (some ⟨w.heap.size, 0, none⟩) 0 0) []) := Lib.hid ⟨_, 0, rfl, fun k u hu => by simp [wCells] at hu, fun ad h => by injection h with h; subst h; exact Nat.le_refl _⟩
  have HW0 := Lib.hid ((Below.refl w.heap.size w).alloc (Nat.le_refl _) (.cells #[] 36))
  have HF1 : Hid (∀ k, k < a.length → bothFrom [] (a.take (k + 1)) = putL (bothFrom [] (a.take k)) (a.getD k (0, []))) := Lib.hid fun k h => bothFrom_snoc [] a h
  have HF2 : Hid (∀ k, k < b.length → bothFrom (bothFrom [] a) (b.take (k + 1)) = putL (bothFrom (bothFrom [] a) (b.take k)) (b.getD k (0, []))) := Lib.hid fun k h => bothFrom_snoc _ b h
  have HL1 : Hid (∀ k, k ≤ a.length → (bothFrom [] (a.take k)).length ≤ k) := Lib.hid fun k h => by have := bothFrom_len [] a k h; simpa using this
  have HL2 : Hid (∀ k, k ≤ b.length → (bothFrom (bothFrom [] a) (b.take k)).length ≤ a.length + k) := Lib.hid fun k h => by
    have h1 := bothFrom_len (bothFrom [] a) b k h
    have h2 := bothFrom_len [] a a.length (Nat.le_refl _)
    rw [List.take_of_length_le (Nat.le_refl _)] at h2
    simp only [List.length_nil] at h2
    omega
  have HE1 : Hid (bothFrom [] (a.take a.length) = bothFrom (bothFrom [] a) (b.take 0)) := Lib.hid (by rw [List.take_of_length_le (Nat.le_refl _)]; rfl)
  have HE2 : Hid (bothFrom (bothFrom [] a) (b.take b.length) = bothL a b) := Lib.hid (by rw [List.take_of_length_le (Nat.le_refl _)]; rfl)
  have HE0 : Hid (bothFrom [] (a.take 0) = []) := Lib.hid rfl
  clear hA hB
  go_enter Tryd.func49, Tryd.ntmps49
  go_wp2_with fail
  go_loopw [5, 6] (fun v i wr => ∃ k : Nat, k ≤ a.length ∧ i = .int .i64 k ∧ Hid (IsW w.heap.size wr v (bothFrom [] (a.take k))) ∧ Hid (Below w.heap.size w wr)) (fun _ i _ => a.length - (intOf i).toNat)
  case atStart => exact ⟨0, by omega, rfl, by rw [HE0.out]; exact HI0, HW0⟩
  case round =>
    obtain ⟨k, hk, rfl, HI, HW⟩ := hrel
    clear HI0 HW0
    by_cases hlt : k < a.length
    · obtain ⟨bd, rfl, hbd, b0, b1⟩ := HA.out.at' hlt
      have b0' := (HW.out.cell (p := bd.add (k * 2)) (by rw [add_block]; exact hbd)).trans b0
      have b1' := (HW.out.cell (p := ⟨(bd.add (k * 2)).block, (bd.add (k * 2)).off + 1, none⟩) (by show (bd.add (k * 2)).block < _; rw [add_block]; exact hbd)).trans b1
      have HN := Lib.hid (HF1.out k hlt)
      have hln := HL1.out k (by omega)
      clear b0 b1
      generalize a.getD k (0, []) = p at *
      generalize bothFrom [] (a.take k) = acc at *
      obtain ⟨n, y⟩ := p
      dsimp only at b0' b1'
      have i0' : (0 : Int) ≤ (k : Int) := by omega
      have i1 : (k : Int) < (a.length : Int) := by omega
      have hd : decide (k < a.length) = true := by simp; omega
      go_wp2_with fail
      refine (put_is wr _ _ acc n y HI.out (by omega)).mono ?_
      rintro e w3 ⟨⟨v', rfl, HI3⟩, hb3⟩
      have HB3 := Lib.hid (HW.out.trans (hb3.mono HW.out.size))
      clear hb3 b0' b1'
      go_wp2_with fail
      go_roundw
      case rel =>
        have R : ∃ k' : Nat, k' ≤ a.length ∧ Value.int .i64 ((k : Int) + 1) = .int .i64 k' ∧ Hid (IsW w.heap.size w3 v' (bothFrom [] (a.take k'))) ∧ Hid (Below w.heap.size w w3) := ⟨k + 1, by omega, by go_num, Lib.hid (by rw [HN.out]; exact HI3.out.mono HW.out.size), HB3⟩
        first | exact R | ((repeat apply Exists.intro); exact ⟨R, rfl⟩)
      case measure => simp [intOf]; omega
    · obtain rfl : k = a.length := by omega
      have hd : decide (a.length < a.length) = false := by simp
      rw [HE1.out] at HI
      go_wp2_with fail
      clear hd
      go_loopw [5, 7] (fun v i wr => ∃ k : Nat, k ≤ b.length ∧ i = .int .i64 k ∧ Hid (IsW w.heap.size wr v (bothFrom (bothFrom [] a) (b.take k))) ∧ Hid (Below w.heap.size w wr)) (fun _ i _ => b.length - (intOf i).toNat)
      case atStart => exact ⟨0, by omega, rfl, HI, HW⟩
      case round =>
        obtain ⟨k, hk, rfl, HI, HW⟩ := hrel
        by_cases hlt : k < b.length
        · obtain ⟨bd, rfl, hbd, b0, b1⟩ := HB.out.at' hlt
          have b0' := (HW.out.cell (p := bd.add (k * 2)) (by rw [add_block]; exact hbd)).trans b0
          have b1' := (HW.out.cell (p := ⟨(bd.add (k * 2)).block, (bd.add (k * 2)).off + 1, none⟩) (by show (bd.add (k * 2)).block < _; rw [add_block]; exact hbd)).trans b1
          have HN := Lib.hid (HF2.out k hlt)
          have hln := HL2.out k (by omega)
          clear b0 b1
          generalize b.getD k (0, []) = p at *
          generalize bothFrom (bothFrom [] a) (b.take k) = acc at *
          obtain ⟨n, y⟩ := p
          dsimp only at b0' b1'
          have i0' : (0 : Int) ≤ (k : Int) := by omega
          have i1 : (k : Int) < (b.length : Int) := by omega
          have hd : decide (k < b.length) = true := by simp; omega
          go_wp2_with fail
          refine (put_is wr _ _ acc n y HI.out (by omega)).mono ?_
          rintro e w3 ⟨⟨v', rfl, HI3⟩, hb3⟩
          have HB3 := Lib.hid (HW.out.trans (hb3.mono HW.out.size))
          clear hb3 b0' b1'
          go_wp2_with fail
          go_roundw
          case rel =>
            have R : ∃ k' : Nat, k' ≤ b.length ∧ Value.int .i64 ((k : Int) + 1) = .int .i64 k' ∧ Hid (IsW w.heap.size w3 v' (bothFrom (bothFrom [] a) (b.take k'))) ∧ Hid (Below w.heap.size w w3) := ⟨k + 1, by omega, by go_num, Lib.hid (by rw [HN.out]; exact HI3.out.mono HW.out.size), HB3⟩
            first | exact R | ((repeat apply Exists.intro); exact ⟨R, rfl⟩)
          case measure => simp [intOf]; omega
        · obtain rfl : k = b.length := by omega
          have hd : decide (b.length < b.length) = false := by simp
          rw [HE2.out] at HI
          go_wp2_with fail
          go_ret
          exact ⟨⟨_, rfl, HI.out⟩, HW.out⟩
set_option maxRecDepth 100000 in
set_option maxHeartbeats 1000000 in
theorem cloneW_any (w : World) (A : Option Addr) (c : Nat) (ls : List Wr) (hA : Wrs w w.heap.size A ls) (hn : ls.length ≤ 1099511627776) :
    Calls Tryd.prog 47 #[.slice A ls.length c] w fun e w' => (∃ G k, e = .returned (.slice G ls.length k) ∧ Wrs w' w'.heap.size G ls ∧ ∀ ad, G = some ad → w.heap.size ≤ ad.block) ∧ Below w.heap.size w w' := by
  obtain ⟨i0, hi0, hz0, hz1, hz2⟩ := info_parts Tryd.infoWrite
  cases A with
  | none =>
    have hls : ls = [] := by
      cases ls with
      | nil => rfl
      | cons l r => obtain ⟨ad, e, _⟩ := hA.at' (k := 0) (by simp); cases e
    subst hls
    have he : ∀ W : World, (binOp .eql 30 (.slice none 0 c) (.slice none 0 0)).run Tryd.prog W = .ok (.bool true) W := fun W => Lib.run_eql_slice_nil W 30 36 none 0 c 0 0 Tryd.underlying30
    go_enter Tryd.func47, Tryd.ntmps47
    go_wp2
    go_ret
    exact ⟨⟨none, 0, rfl, fun k u hu => by simp [wCells] at hu, fun ad h => by cases h⟩, Below.refl _ _⟩
  | some ad =>
    have he : ∀ W : World, (binOp .eql 30 (.slice (some ad) ls.length c) (.slice none 0 0)).run Tryd.prog W = .ok (.bool false) W := fun W => Lib.run_eql_slice_nil W 30 36 (some ad) ls.length c 0 0 Tryd.underlying30
    have HQ := Lib.hid (Lies.block hA (Nat.le_refl _) (.cells #[] 36))
    have HO : Hid (Own2 (w.alloc (.cells #[] 36)) w.heap.size (.slice (some ⟨w.heap.size, 0, none⟩) 0 0) []) := Lib.hid (World.ownsRow_lit w #[] 0 (Nat.le_refl _) (by unfold maxLen; omega) rfl)
    have HS1 : Hid ((wCells ls).length = ls.length * 2) := Lib.hid (by rw [wCells_length]; omega)
    have H63 : Hid (0 + ls.length ≤ maxLen) := Lib.hid (by unfold maxLen; omega)
    have HBY : Hid ((0 + ls.length) * 24 ≤ 140737488355328) := Lib.hid (by omega)
    have HBA : Hid (w.heap.size ≤ (w.alloc (.cells #[] 36)).heap.size) := Lib.hid (by simp)
    clear hA
    go_enter Tryd.func47, Tryd.ntmps47
    go_wp2_with (at_builtin; refine wpList_append_src rfl (.tmp 5) (.tmp 6) 30 rfl w.heap.size 36 i0 _ 2 24 Tryd.underlying30 hi0 hz0 hz1 hz2 rfl (by decide) _ _ _ rfl HO.out w.heap.size (some ad) ls.length c (wCells ls) rfl HS1.out HQ.out (wCells_one ls) H63.out HBY.out HBA.out ?_; intro v' w1 hown' hgrow)
    have hown2 := hown'
    rw [show ([] : List Wr).length + ls.length = ls.length by simp, show wCells [] ++ wCells ls = wCells ls by simp [wCells]] at hown2
    obtain ⟨G, k, rfl, hG, hge⟩ := own_shape hown2 (by decide)
    go_ret
    exact ⟨⟨G, k, rfl, hG, hge⟩, ((Below.refl _ _).alloc (Nat.le_refl _) _).grown hgrow HBA.out (own_ge HO.out)⟩
end Go.Proofs.YtecamaceainfpaaDoor
