/-
  Walk: num.Texts.
-/
import Derived.Test.YtecamaceainfpaaDoorLen
import Derived.Test.YtecamaceainfpaaDoorDone
import Derived.Test.YtecamaceainfpaaDoorAdd
namespace Go.Proofs.YtecamaceainfpaaDoor
open Go.RowKit

theorem lenGo_err : ∀ (b : List UInt8) (k n : Nat) (x : Int), lenGo k n b = .error x → x = 3 ∨ x = 4
  | [], _, _, _, h => by injection h with h; exact .inr h.symm
  | c :: b, k, n, x, h => by
    unfold lenGo at h
    split at h
    · injection h with h; exact .inl h.symm
    · split at h
      · exact lenGo_err b _ _ _ h
      · split at h
        · injection h with h; exact .inl h.symm
        · cases h
theorem lenGo_suf : ∀ (b : List UInt8) (k n m : Nat) (r : List UInt8), lenGo k n b = .ok (m, r) → b.drop (b.length - r.length) = r
  | [], _, _, _, _, h => by cases h
  | c :: b, k, n, m, r, h => by
    have hlt := lenGo_lt _ _ _ _ _ h
    unfold lenGo at h
    split at h
    · cases h
    · split at h
      · have h2 := lenGo_suf b _ _ _ _ h
        have h3 := lenGo_lt _ _ _ _ _ h
        rw [List.length_cons, show b.length + 1 - r.length = (b.length - r.length) + 1 by omega, List.drop_succ_cons]; exact h2
      · split at h
        · cases h
        · injection h with h; injection h with h1 h2; subst h2; simp
theorem textsA_err' : ∀ (N : Nat) (b : List UInt8) (acc : List (List UInt8)) (x : Int), b.length ≤ N → textsA acc b = .error x → x = 3 ∨ x = 4 := by
  intro N
  induction N with
  | zero =>
    intro b acc x hN h
    obtain rfl : b = [] := List.eq_nil_of_length_eq_zero (by omega)
    rw [textsA_nil] at h; cases h
  | succ N ih =>
    intro b acc x hN h
    by_cases hb : b = []
    · subst hb; rw [textsA_nil] at h; cases h
    · cases hg : lenGo 0 0 b with
      | error e => rw [textsA_err hb hg] at h; injection h with h; subst h; exact lenGo_err _ _ _ _ hg
      | ok p =>
        obtain ⟨n, r⟩ := p
        by_cases hn : r.length < n
        · rw [textsA_short hb hg hn] at h; injection h with h; exact .inr h.symm
        · rw [textsA_go hb hg hn] at h
          have hlt := lenGo_lt _ _ _ _ _ hg
          exact ih _ _ _ (by simp; omega) h
/-- what Texts gives back -/
def TextsPost (b : List UInt8) (w : World) (e : Ending) (w' : World) : Prop :=
  (match textsA [] b with
    | .error x => e = .returned (.tuple #[.slice none 0 0, .int .i64 x])
    | .ok ls => ∃ v, e = .returned (.tuple #[v, .int .i64 0]) ∧ Own w' w.heap.size v ls) ∧ Below w.heap.size w w'
set_option maxRecDepth 100000 in
set_option maxHeartbeats 2000000 in
theorem texts_any (w : World) (b : List UInt8) (hb : b.length ≤ 1099511627776) :
    Calls Tryd.prog 58 #[S b] w (TextsPost b w) := by
  obtain ⟨i0, hi0, hz0, hz1, hz2⟩ := info_parts Tryd.infoStr
  go_enter Tryd.func58, Tryd.ntmps58
  go_wp2_with fail
  go_loopw [0, 4] (fun s v wr => ∃ (cur : List UInt8) (acc : List (List UInt8)), s = S cur ∧ acc.length + cur.length ≤ b.length ∧ Hid (textsA [] b = textsA acc cur) ∧ Hid (Own wr w.heap.size v acc) ∧ Hid (Below w.heap.size w wr)) (fun s _ _ => strLen s)
  case atStart => exact ⟨b, [], rfl, by simp, Lib.hid rfl, Lib.hid (World.ownsRow_nil _ _ _ _), Lib.hid (Below.refl _ _)⟩
  case round =>
    obtain ⟨cur, acc, rfl, hle, HT, HO, HB⟩ := hrel
    by_cases hne : cur = []
    · subst hne
      rw [textsA_nil] at HT
      have hd : decide ((0 : Int) < (([] : List UInt8).length : Int)) = false := by simp
      go_wp2_with fail
      go_ret2
      unfold TextsPost
      rw [HT.out]
      exact ⟨⟨_, rfl, HO.out⟩, HB.out⟩
    · have hpos : 0 < cur.length := List.length_pos_iff.2 hne
      have hd : decide ((0 : Int) < (cur.length : Int)) = true := by simp; omega
      have hd' : decide (0 < cur.length) = true := by simp; omega
      have HNE := Lib.hid hne
      clear hne
      go_wp2_with fail
      refine (length_any wr cur (by omega)).mono ?_
      rintro e w1 ⟨he, rfl⟩
      cases hg : lenGo 0 0 cur with
      | error x =>
        rw [hg] at he
        dsimp only at he
        subst he
        have HQ : Hid (textsA [] b = .error x) := Lib.hid (by rw [HT.out, textsA_err HNE.out hg])
        have hx := lenGo_err _ _ _ _ hg
        have hx0 : (x != 0) = true := by rcases hx with rfl | rfl <;> rfl
        clear hg hx
        go_wp2_with fail
        go_ret2
        unfold TextsPost
        rw [HQ.out]
        exact ⟨rfl, HB.out⟩
      | ok p =>
        obtain ⟨n, r⟩ := p
        rw [hg] at he
        dsimp only at he
        subst he
        have hlt := lenGo_lt _ _ _ _ _ hg
        have hsf := run_from_S cur .i64 ((cur.length - r.length : Nat) : Int) (cur.length - r.length) rfl (by omega)
        rw [lenGo_suf _ _ _ _ _ hg] at hsf
        have HG := Lib.hid hg
        clear hg
        obtain ⟨u, HU⟩ : ∃ z, Hid (cur.length - r.length = z) := ⟨_, Lib.hid rfl⟩
        rw [HU.out] at hsf
        rw [HU.out]
        by_cases hn : r.length < n
        · have hd2 : decide ((r.length : Int) < (n : Int)) = true := by simp; omega
          have hd2' : decide (r.length < n) = true := by simp; omega
          have HQ : Hid (textsA [] b = .error 4) := Lib.hid (by rw [HT.out, textsA_short HNE.out HG.out hn])
          go_wp2_with fail
          go_ret2
          unfold TextsPost
          rw [HQ.out]
          exact ⟨rfl, HB.out⟩
        · have hd2 : decide ((r.length : Int) < (n : Int)) = false := by simp; omega
          have hd2' : decide (r.length < n) = false := by simp; omega
          have HQ : Hid (textsA [] b = textsA (acc ++ [r.take n]) (r.drop n)) := Lib.hid (by rw [HT.out, textsA_go HNE.out HG.out hn])
          have ht := run_to_S r .i64 (n : Int) n rfl (by omega)
          have hf := run_from_S r .i64 (n : Int) n rfl (by omega)
          have hdl : (r.drop n).length ≤ r.length := by simp
          generalize r.take n = y at *
          generalize r.drop n = z at *
          have HNW : Hid (∀ i u, [S y][i]? = some u → (wr.alloc (.cells #[S y] 9)).cell? ((⟨wr.heap.size, 0, none⟩ : Addr).add i) = some u) := Lib.hid (fun i u hu => by
            obtain ⟨ad', e', _, hc'⟩ := lies_made wr 9 [S y] (wr.heap.size + 1) (by omega) i u hu
            injection e' with e'; subst e'; exact hc')
          have H1 : Hid (∀ u ∈ [S y], u.oneCell' = true) := Lib.hid (by simp [Value.oneCell'])
          have H63 : Hid (acc.length + 1 ≤ maxLen) := Lib.hid (by unfold maxLen; omega)
          have HBY : Hid ((acc.length + 1) * 16 ≤ 140737488355328) := Lib.hid (by omega)
          have HBA : Hid (w.heap.size ≤ (wr.alloc (.cells #[S y] 9)).heap.size) := Lib.hid (by have := HB.out.size; simp; omega)
          have HOA := Lib.hid (HO.out.alloc (.cells #[S y] 9))
          go_wp2_with (at_builtin; refine wpList_append_own _ rfl (.tmp 27) (.tmp 31) 22 rfl w.heap.size 9 i0 _ 1 16 Tryd.underlying22 hi0 hz0 hz1 hz2 rfl (by decide) _ _ _ rfl HOA.out ⟨wr.heap.size, 0, none⟩ 1 1 [S y] rfl rfl HNW.out H1.out H63.out HBY.out HBA.out ?_; intro v' w4 hown' hgrow _)
          have HO4 : Hid (Own w4 w.heap.size v' (acc ++ [y])) := Lib.hid (by
            have := hown'
            rw [show (acc.map S ++ [S y]) = (acc ++ [y]).map S by simp] at this
            unfold Own
            rw [List.length_append]
            exact this)
          have HB4 : Hid (Below w.heap.size w w4) := Lib.hid ((HB.out.alloc HB.out.size _).grown hgrow HBA.out (own_ge HOA.out))
          have hm : strLen (S z) < strLen (S cur) := by rw [strLen_S, strLen_S]; omega
          exact ⟨⟨z, acc ++ [y], rfl, by simp; omega, HQ, HO4, HB4⟩, hm⟩
end Go.Proofs.YtecamaceainfpaaDoor
