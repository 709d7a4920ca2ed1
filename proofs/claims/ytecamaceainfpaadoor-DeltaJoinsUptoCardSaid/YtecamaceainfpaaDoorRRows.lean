/-
  Walk: hibernacleref35.rows.
-/
import Derived.Test.YtecamaceainfpaaDoorFuncs
import Derived.Test.YtecamaceainfpaaDoorRDec
namespace Go.Proofs.YtecamaceainfpaaDoor
open Go.RowKit

theorem rowW_len (p : Int × List UInt8) (h : inI p.1) (hl : p.2.length ≤ 4294967296) : (rowW p).length ≤ 56 + 2 * p.2.length := by
  unfold rowW
  have h1 := itoa_len h
  have hs : sizeOf [Lib.itoa p.1, p.2] = 8 + (Lib.itoa p.1).length + p.2.length := by simp [sizeOf]; omega
  have := rowB_le [Lib.itoa p.1, p.2] (by omega)
  omega
theorem rows_size : ∀ l : List (Int × List UInt8), (∀ p ∈ l, inI p.1) → wSize l ≤ 4294967296 → sizeOf (l.map rowW) ≤ 8 * wSize l
  | [], _, _ => by simp [sizeOf]
  | p :: l, h, hs => by
    have e1 : wSize (p :: l) = 8 + p.2.length + wSize l := by simp [wSize]
    have ih := rows_size l (fun q hq => h q (List.mem_cons_of_mem _ hq)) (by omega)
    have hp := rowW_len p (h p (List.mem_cons_self ..)) (by omega)
    have e2 : sizeOf ((p :: l).map rowW) = 4 + (rowW p).length + sizeOf (l.map rowW) := by simp [sizeOf]
    omega
theorem wSize_getD {l : List (Int × List UInt8)} {k : Nat} (hk : k < l.length) : (l.getD k (0, [])).2.length ≤ wSize l := by
  have := wSize_snoc l k hk
  have := wSize_take_le l (k + 1)
  omega
section
variable {P : Program}
theorem step_append_own {ops : Array Oper} {o : Oper} {a : Act} {w : World} {K : Act → World → Prop} {Q : Exit → Act → World → Prop} {E : Prop} (hgd : o.guard = none) (s x : Operand) (t : TypeId)
    (ho : o.op = .call { callee := .builtin .append, args := #[s, x], argTypes := #[t, t] })
    (base : Nat) (e : TypeId) (i : TypeInfo) (z : Value) (size bytes : Nat) (ht : P.underlying t = some (.slice e)) (hi : P.info? e = some i) (hz : i.zero = some z)
    (hsize : i.size = size) (hby : i.bytes = bytes) (hzs : z.cells.size = size) (hsz : 0 < size)
    (v : Value) (n : Nat) (xs : List Value) (hs : a.eval s = v) (hown : w.ownsRow base e size v n xs)
    (ad : Addr) (m c : Nat) (news : List Value) (hx : a.eval x = .slice (some ad) m c) (hl : news.length = m * size) (hnews : ∀ j u, news[j]? = some u → w.cell? (ad.add j) = some u) (h1 : ∀ u ∈ news, u.oneCell' = true)
    (h63 : n + m ≤ maxLen) (hbytes : (n + m) * bytes ≤ 140737488355328) (hbase : base ≤ w.heap.size)
    (h : ∀ v' w', w'.ownsRow base e size v' (n + m) (xs ++ news) → w.grownBy w' v.ownBlock → (v' = .slice none 0 0 ↔ v = .slice none 0 0 ∧ m = 0) → K (a.put o.dst v') w') :
    if Region.wanted o (yielded ops a.tmps) = true then Oper.wp P o a w K Q else E := by
  have hw : Region.wanted o (yielded ops a.tmps) = true := by simp [Region.wanted, hgd]
  rw [if_pos hw]
  exact wp_append_own w s x t ho base e i z size bytes ht hi hz hsize hby hzs hsz v n xs hs hown ad m c news hx hl hnews h1 h63 hbytes hbase h
end
/-- what rows gives back -/
def RowsPost (w : World) (l : List (Int × List UInt8)) (e : Ending) (w' : World) : Prop :=
  (match negs l with
    | true => e = .returned (.tuple #[S [], .bool false])
    | false => e = .returned (.tuple #[S (rowB (l.map rowW)), .bool true])) ∧ Below w.heap.size w w'
theorem rrow_two (w : World) (a b : List UInt8) (h : sizeOf [a, b] ≤ 34359738368) :
    Calls Tryd.prog 57 #[.slice (some ⟨w.heap.size, 0, none⟩) 2 2] (w.alloc (.cells #[S a, S b] 9)) fun e w' => e = .returned (S (rowB [a, b])) ∧ Below w.heap.size w w' :=
  (rrow_any (w.alloc (.cells #[S a, S b] 9)) (some ⟨w.heap.size, 0, none⟩) 2 [a, b] (lies_made w 9 [S a, S b] _ (by simp)) h).mono fun e w' hw => ⟨hw.1, ((Below.refl w.heap.size w).alloc (Nat.le_refl _) _).trans (hw.2.mono (by simp))⟩
set_option maxRecDepth 100000 in
set_option maxHeartbeats 2000000 in
theorem rrows_any (w : World) (B : Option Addr) (d : Nat) (l : List (Int × List UInt8)) (hB : Wrs w w.heap.size B l) (hs : wSize l ≤ 2147483648) (hr : ∀ p ∈ l, inI p.1) :
    Calls Tryd.prog 56 #[.slice B l.length d] w (RowsPost w l) := by
  obtain ⟨i0, hi0, hz0, hz1, hz2⟩ := info_parts Tryd.infoStr
  have HB := Lib.hid hB
  have HR := Lib.hid hr
  have hl := wSize_len l
  clear hB hr
  go_enter Tryd.func56, Tryd.ntmps56
  go_wp2_with fail
  go_loopw [4, 5] (fun v i wr => ∃ k : Nat, k ≤ l.length ∧ i = .int .i64 k ∧ Hid (negs (l.take k) = false) ∧ Hid (Own wr w.heap.size v ((l.take k).map rowW)) ∧ Hid (Below w.heap.size w wr)) (fun _ i _ => l.length - (intOf i).toNat)
  case atStart => exact ⟨0, by omega, rfl, Lib.hid rfl, Lib.hid (World.ownsRow_lit w #[] 0 (Nat.le_refl _) (by unfold maxLen; omega) rfl), Lib.hid ((Below.refl _ _).alloc (Nat.le_refl _) _)⟩
  case round =>
    obtain ⟨k, hk, rfl, HN, HO, HW⟩ := hrel
    by_cases hlt : k < l.length
    · obtain ⟨bd, rfl, hbd, b0, b1⟩ := HB.out.at' hlt
      have HBD : Hid (∀ W, Below w.heap.size w W → W.cell? (bd.add (k * 2)) = some (.int .i64 (l.getD k (0, [])).1) ∧ W.cell? ⟨(bd.add (k * 2)).block, (bd.add (k * 2)).off + 1, none⟩ = some (S (l.getD k (0, [])).2)) := Lib.hid fun W hW =>
        ⟨(hW.cell (by rw [add_block]; exact hbd)).trans b0, (hW.cell (by show (bd.add (k * 2)).block < _; rw [add_block]; exact hbd)).trans b1⟩
      obtain ⟨b0', b1'⟩ := HBD.out wr HW.out
      clear b0 b1
      have HY := Lib.hid (@negs_yes l k hlt)
      have HNO := Lib.hid (@negs_no l k hlt HN.out)
      have HTK : Hid ((l.take (k + 1)).map rowW = (l.take k).map rowW ++ [rowW (l.getD k (0, []))]) := Lib.hid (by rw [List.take_succ_eq_append_getElem hlt, List.map_append, List.getD_eq_getElem?_getD, List.getElem?_eq_getElem hlt]; rfl)
      have hri : inI (l.getD k (0, [])).1 := HR.out _ (by rw [List.getD_eq_getElem?_getD, List.getElem?_eq_getElem hlt]; exact List.getElem_mem hlt)
      have hry := wSize_getD hlt
      have hlk : ((l.take k).map rowW).length = k := by simp; omega
      generalize (l.take k).map rowW = acc at *
      generalize l.getD k (0, []) = p at *
      obtain ⟨n, y⟩ := p
      dsimp only at b0' b1' hri hry HBD
      have HRI := Lib.hid hri
      have HLK := Lib.hid hlk
      clear hlk
      have q0 : (0 : Int) ≤ (k : Int) := by omega
      have q1 : (k : Int) < (l.length : Int) := by omega
      by_cases hn : n < 0
      · have hd : decide (n < 0) = true := decide_eq_true hn
        have HQ := Lib.hid (HY.out hn)
        clear hn hri
        go_wp2_with fail
        go_ret2
        unfold RowsPost
        rw [HQ.out]
        exact ⟨rfl, HW.out⟩
      · have hd : decide (n < 0) = false := decide_eq_false hn
        have HQ := Lib.hid (HNO.out hn)
        have hln := itoa_len hri
        have HE : Hid (rowW (n, y) = rowB [Lib.itoa n, y]) := Lib.hid rfl
        have DC : Hid (∀ W : World, Calls Tryd.prog 84 #[.int .i64 n] W fun e w' => e = .returned (S (Lib.itoa n)) ∧ Below W.heap.size W w') := Lib.hid fun W => rdec_any n W HRI.out
        generalize Lib.itoa n = x at *
        have hsz : sizeOf [x, y] ≤ 34359738368 := by simp [sizeOf]; omega
        clear hn hri
        go_wp2_with fail
        have H63 : Hid (acc.length + 1 ≤ maxLen) := Lib.hid (by rw [HLK.out]; unfold maxLen; omega)
        have HBY : Hid ((acc.length + 1) * 16 ≤ 140737488355328) := Lib.hid (by rw [HLK.out]; omega)
        go_region_held3 (fun w' => w'.cell? (bd.add (k * 2)) = some (.int .i64 n) ∧ w'.cell? ⟨(bd.add (k * 2)).block, (bd.add (k * 2)).off + 1, none⟩ = some (S y))
          (first
            | (exact ⟨b0', b1'⟩)
            | (exact HBD.out _ BB)
            | (exact HBD.out _ (BB.alloc BB.size _)))
          (first
            | (go_at_call 84; refine (DC.out _).mono ?_; rintro e w2 ⟨rfl, hbl⟩; have BB : Below w.heap.size w w2 := HW.out.drew.trans (hbl.mono HW.out.size); have O2 : Hid (Own w2 w.heap.size u4 acc) := Lib.hid (own_below HO.out (((Below.refl _ _).drew).trans hbl)); clear hbl)
            | (go_at_call 57; refine (rrow_two w2 x y hsz).mono ?_; rintro e w4 ⟨rfl, hbl⟩; have B4 : Below w.heap.size w w4 := BB.trans (hbl.mono BB.size); clear BB; have BB := B4; have O4 := Lib.hid (own_below O2.out hbl); clear hbl; generalize rowB [x, y] = z at *)
            | (refine step_append_own rfl (.tmp 19) (.tmp 33) 22 rfl w.heap.size 9 i0 _ 1 16 Tryd.underlying22 hi0 hz0 hz1 hz2 rfl (by decide) _ _ _ rfl (O4.out.alloc (.cells #[S z] 9)) ⟨w4.heap.size, 0, none⟩ 1 1 [S z] rfl rfl (fun i u hu => by
                obtain ⟨ad', e', _, hc'⟩ := lies_made w4 9 [S z] (w4.heap.size + 1) (by omega) i u hu
                injection e' with e'; subst e'; exact hc') (by simp [Value.oneCell']) H63.out HBY.out (by have := B4.size; simp; omega) ?_; intro v' w5 hown' hgrow _; clear BB; have BB := (B4.alloc B4.size (.cells #[S z] 9)).grown hgrow (by have := B4.size; simp; omega) (own_ge O4.out)))
        have HO5 : Hid (Own w5 w.heap.size v' (acc ++ [z])) := Lib.hid (by
          have := hown'
          rw [show (acc.map S ++ [S z]) = (acc ++ [z]).map S by simp] at this
          unfold Own
          rw [List.length_append]
          exact this)
        have HB5 := Lib.hid BB
        rw [← HE.out, ← HTK.out] at HO5
        clear hown' hgrow BB b0' b1' O2 O4 B4
        go_wp2_with fail
        go_roundw
        case rel =>
          have R : ∃ k' : Nat, k' ≤ l.length ∧ Value.int .i64 ((k : Int) + 1) = .int .i64 k' ∧ Hid (negs (l.take k') = false) ∧ Hid (Own w5 w.heap.size v' ((l.take k').map rowW)) ∧ Hid (Below w.heap.size w w5) := ⟨k + 1, by omega, by go_num, HQ, HO5, HB5⟩
          first | exact R | ((repeat apply Exists.intro); exact ⟨R, rfl⟩)
        case measure => simp [intOf]; omega
    · obtain rfl : k = l.length := by omega
      have hd : decide (l.length < l.length) = false := by simp
      rw [List.take_of_length_le (Nat.le_refl _)] at HO HN
      obtain ⟨A, c, rfl, hlies, _⟩ := own_shape HO.out (by omega)
      have hls := rows_size l HR.out (by omega)
      have HLI := Lib.hid hlies
      have HLN : Hid ((l.map rowW).length = l.length) := Lib.hid (by simp)
      obtain ⟨acc, HACC⟩ : ∃ z, Hid (l.map rowW = z) := ⟨_, Lib.hid rfl⟩
      rw [HACC.out] at HLI hls
      rw [HACC.out]
      clear hlies HLN
      go_wp2_with fail
      refine (rrow_any wr A c acc HLI.out (by omega)).mono ?_
      rintro e w2 ⟨rfl, hb2⟩
      have HB2 := Lib.hid (HW.out.trans (hb2.mono HW.out.size))
      clear hb2
      go_wp2_with fail
      go_ret2
      unfold RowsPost
      rw [HN.out]
      exact ⟨by rw [HACC.out]; rfl, HB2.out⟩
end Go.Proofs.YtecamaceainfpaaDoor
