/-
  What a row hands over: deltas opened, their bulk; the library's variables out of the row's list.
-/
import Derived.Test.YtecamaceainfpaaDoorArgs
import Derived.Test.YtecamaceainfpaaDoorBLaw
import Derived.Stop.LaidErr
import Derived.Deep.Matrix
namespace Go.Proofs.YtecamaceainfpaaDoor
open Go.RowKit Go.ChangeShapes Go.WideShapes

theorem choose_list {α : Type} {P : Nat → α → Prop} : ∀ n, (∀ i, i < n → ∃ x, P i x) → ∃ l : List α, l.length = n ∧ ∀ i x, l[i]? = some x → P i x
  | 0, _ => ⟨[], rfl, fun i x h => by simp at h⟩
  | n + 1, h => by
    obtain ⟨l, hl, hp⟩ := choose_list n fun i hi => h i (by omega)
    obtain ⟨x, hx⟩ := h n (by omega)
    refine ⟨l ++ [x], by simp [hl], fun i y hy => ?_⟩
    by_cases hi : i < n
    · rw [List.getElem?_append_left (by omega)] at hy
      exact hp i y hy
    · rw [List.getElem?_append_right (by omega)] at hy
      have h0 : i - l.length = 0 := by
        have := (List.getElem?_eq_some_iff.1 hy).1
        simp at this; omega
      rw [h0] at hy
      simp only [List.getElem?_cons_zero, Option.some.injEq] at hy
      subst hy
      obtain rfl : i = n := by omega
      exact hx
section
variable {H : Type} {enc : TypeId × Value → H} {W : World}
theorem int_wf {n : Int} (h : (Lit.int .i64 n).wf = true) : inI n := by
  simp only [Lit.wf, Bool.and_eq_true, decide_eq_true_eq] at h
  exact h
theorem u8_wf {n : Int} (h : (Lit.int .u8 n).wf = true) : 0 ≤ n ∧ n < 256 := by
  simp only [Lit.wf, Bool.and_eq_true, decide_eq_true_eq] at h
  have h1 : (0 : Int) ≤ n := h.1
  have h2 : n ≤ 255 := h.2
  omega
/-- a digest's cells, opened -/
theorem open_bytes32 {sp : Nat → Bool} {held : Bool} {fuel : Nat} {cs : List Value} {y : DataW H × List MemPlace} (hl : cs.length = 32) (h : DataW.trod enc Tryd.prog W 0 sp held fuel 29 cs = some y) :
    ∃ F : List UInt8, F.length = 32 ∧ cs = F.map B8 := by
  have hc1 : Tryd.prog.cellsOf 5 = 1 := by kernel_rfl
  have key : ∀ i, i < 32 → ∃ x : UInt8, cs[i]? = some (B8 x) := by
    intro i hi
    cases fuel with
    | zero => simp [DataW.trod] at h
    | succ fuel =>
      simp only [DataW.trod, Tryd.underlying29, hc1] at h
      split at h
      · obtain ⟨xs, hm, hx⟩ := Option.map_eq_some_iff.1 h
        obtain ⟨b, hb, hfb⟩ := Lib.mapM_at hm i i (by simp [hi])
        obtain ⟨z, hz, _, hwf⟩ := DataW.trod_int Tryd.underlying5 hfb
        have hz2 : cs[i]? = some (.int .u8 z) := by
          have := congrArg (·[0]?) hz
          simpa [List.getElem?_take, List.getElem?_drop] using this
        have hw := u8_wf hwf
        refine ⟨UInt8.ofNat z.toNat, ?_⟩
        rw [hz2]
        simp only [B8, UInt8.toNat_ofNat']
        rw [show ((z.toNat % 2 ^ 8 : Nat) : Int) = z by omega]
      · cases h
  obtain ⟨F, hF, hp⟩ := choose_list 32 key
  refine ⟨F, hF, List.ext_getElem? fun i => ?_⟩
  by_cases hi : i < 32
  · have h1 : F[i]? = some (F[i]'(by omega)) := List.getElem?_eq_getElem (by omega)
    rw [hp i _ h1, List.getElem?_map, h1]; rfl
  · rw [List.getElem?_eq_none (by omega), List.getElem?_eq_none (by simp; omega)]
theorem bulk_wrs (H : Type) (ws : List (Int × List UInt8)) : wSize ws ≤ 8 * Rows.uptoBulkAll (ws.map fun p => (DataW.agg [.lit (.int .i64 p.1), .lit (.string p.2)] : DataW H)) := by
  induction ws with
  | nil => simp [wSize]
  | cons p ws ih =>
    have e1 : wSize (p :: ws) = 8 + p.2.length + wSize ws := by simp [wSize]
    simp only [List.map_cons, Rows.uptoBulkAll, Rows.uptoBulk] at ih ⊢
    omega
/-- a slice of writes, opened -/
theorem open_wrs {sp : Nat → Bool} {held : Bool} {fuel : Nat} {v : Value} {y : DataW H × List MemPlace} (h : DataW.trod enc Tryd.prog W 0 sp held fuel 30 [v] = some y) :
    ∃ (A : Option Addr) (c : Nat) (ws : List (Int × List UInt8)), v = .slice A ws.length c ∧ Wrs W W.heap.size A ws ∧ (∀ p ∈ ws, inI p.1) ∧ wSize ws ≤ 8 * Rows.uptoBulk y.1 := by
  have hc2 : Tryd.prog.cellsOf 36 = 2 := by kernel_rfl
  have hci : Tryd.prog.cellsOf 3 = 1 := by kernel_rfl
  rcases DataW.trod_slice Tryd.underlying30 h with ⟨hcs, rfl⟩ | ⟨a, len, cap, elems, rest, n, _, hcs, rfl, _, hlc, hm, hlen, hel, _, _⟩
  · injection hcs with hcs
    subst hcs
    exact ⟨none, 0, [], rfl, fun k u hu => by simp [wCells] at hu, fun p hp => by simp at hp, by simp [wSize]⟩
  · injection hcs with hcs
    subst hcs
    rw [hc2] at hel
    have key : ∀ i, i < len → ∃ p : Int × List UInt8, inI p.1 ∧ W.cell? (a.add (i * 2)) = some (.int .i64 p.1) ∧ W.cell? ((a.add (i * 2)).add 1) = some (S p.2) ∧ ((elems.map (·.1))[i]? = some (.agg [.lit (.int .i64 p.1), .lit (.string p.2)])) := by
      intro i hi
      have h1 := hel i hi
      rw [List.getElem?_eq_getElem (show i < elems.length by omega)] at h1
      obtain ⟨cs, hcs, htr⟩ := Option.bind_eq_some_iff.1 h1
      obtain ⟨_, hl2, hcell⟩ := World.cells?_some hcs
      obtain ⟨xs, m, _, hx, _, hxl, hf⟩ := DataW.trod_struct Tryd.underlying36 htr
      have f0 := hf 0 _ rfl
      have f1 := hf 1 _ rfl
      match xs, hxl with
      | [x0, x1], _ =>
        change DataW.trod _ _ _ _ _ _ _ 3 ((cs.drop 0).take (Tryd.prog.cellsOf 3)) = some x0 at f0
        change DataW.trod _ _ _ _ _ _ _ 9 ((cs.drop 1).take (Tryd.prog.cellsOf 9)) = some x1 at f1
        rw [hci] at f0
        rw [Tryd.cellsString] at f1
        obtain ⟨z, hz, rfl, hwf⟩ := DataW.trod_int Tryd.underlying3 f0
        obtain ⟨s, hs, rfl, _⟩ := DataW.trod_string Tryd.underlying9 f1
        have g0 : cs[0]? = some (.int .i64 z) := by
          have := congrArg (·[0]?) hz
          simpa [List.getElem?_take, List.getElem?_drop] using this
        have g1 : cs[1]? = some (.string s) := by
          have := congrArg (·[0]?) hs
          simpa [List.getElem?_take, List.getElem?_drop] using this
        refine ⟨(z, s.data.toList), int_wf hwf, ?_, ?_, ?_⟩
        · have := (hcell 0 (by omega)).trans g0
          rwa [show (a.add (i * 2)).add 0 = a.add (i * 2) by unfold Addr.add; simp] at this
        · rw [(hcell 1 (by omega)).trans g1, S_of]
        · rw [List.getElem?_map, List.getElem?_eq_getElem (show i < elems.length by omega), hx]
          rfl
    obtain ⟨ws, hws, hp⟩ := choose_list len key
    have hmap : elems.map (·.1) = ws.map fun p => (DataW.agg [.lit (.int .i64 p.1), .lit (.string p.2)] : DataW H) := by
      refine List.ext_getElem? fun i => ?_
      by_cases hi : i < len
      · have h1 : ws[i]? = some (ws[i]'(by omega)) := List.getElem?_eq_getElem (by omega)
        rw [(hp i _ h1).2.2.2, List.getElem?_map, h1]; rfl
      · rw [List.getElem?_eq_none (by simp; omega), List.getElem?_eq_none (by simp; omega)]
    refine ⟨some a, cap, ws, by rw [hws], fun k u hu => ?_, fun p hp' => ?_, ?_⟩
    · have hk : k < 2 * len := by
        have := (List.getElem?_eq_some_iff.1 hu).1
        rw [wCells_length] at this; omega
      obtain ⟨i, hik⟩ : ∃ i, k = i * 2 ∨ k = i * 2 + 1 := ⟨k / 2, by omega⟩
      have hi : i < ws.length := by omega
      obtain ⟨w0, w1⟩ := wCells_at ws hi
      have h1 : ws[i]? = some (ws[i]'hi) := List.getElem?_eq_getElem hi
      have hg : ws.getD i (0, []) = ws[i]'hi := by simp [List.getD, hi]
      obtain ⟨_, q0, q1, _⟩ := hp _ _ h1
      rw [hg] at w0 w1
      have hblk := World.block_lt_of_cell? W _ q0
      rw [add_block] at hblk
      refine ⟨a, rfl, hblk, ?_⟩
      rcases hik with rfl | rfl
      · exact q0.trans (w0.symm.trans hu)
      · have e : (a.add (i * 2)).add 1 = a.add (i * 2 + 1) := by unfold Addr.add; by_cases h : i * 2 = 0 <;> simp [h, Nat.add_assoc]
        rw [e] at q1
        exact q1.trans (w1.symm.trans hu)
    · obtain ⟨i, hi⟩ := List.getElem?_of_mem hp'
      exact (hp i p hi).1
    · have := bulk_wrs H ws
      rw [← hmap] at this
      simp only [Rows.uptoBulk]
      omega
set_option maxRecDepth 100000 in
/-- a delta, opened -/
theorem open_delta {r : Reach} {b0 : Nat} {sp : Nat → Bool} {held : Bool} {v : Value} {d : DataW H} {p : List MemPlace} (hv : Value.okWide Tryd.prog W r b0 32 v) (h : DataW.Trod enc Tryd.prog W 0 sp held 32 v d p) :
    ∃ (F T t : List UInt8) (wf wb : List (Int × List UInt8)) (V : List Value), v = .agg V.toArray ∧ F.length = 32 ∧ T.length = 32 ∧ IsD F T t wf wb W V ∧ (∀ q ∈ wf, inI q.1) ∧ (∀ q ∈ wb, inI q.1) ∧ wSize wf + wSize wb + t.length ≤ 8 * Rows.uptoBulk d := by
  have hcd : Tryd.prog.cellsOf 32 = 67 := by kernel_rfl
  have hcg : Tryd.prog.cellsOf 29 = 32 := by kernel_rfl
  have hcw : Tryd.prog.cellsOf 30 = 1 := by kernel_rfl
  obtain ⟨cs, rfl, hsz⟩ := okWide_struct Tryd.underlying32 hv
  obtain ⟨l⟩ := cs
  obtain ⟨fuel, hf⟩ := h
  have hf' : DataW.trod enc Tryd.prog W 0 sp held fuel 32 l = some (d, p) := hf
  obtain ⟨xs, n, _, hx, hlen, hxl, hg⟩ := DataW.trod_struct Tryd.underlying32 hf'
  rw [hcd] at hlen
  have f0 := hg 0 _ rfl
  have f1 := hg 1 _ rfl
  have f2 := hg 2 _ rfl
  have f3 := hg 3 _ rfl
  have f4 := hg 4 _ rfl
  match xs, hxl with
  | [x0, x1, x2, x3, x4], _ =>
    change DataW.trod _ _ _ _ _ _ _ 29 ((l.drop 0).take (Tryd.prog.cellsOf 29)) = some x0 at f0
    change DataW.trod _ _ _ _ _ _ _ 30 ((l.drop 32).take (Tryd.prog.cellsOf 30)) = some x1 at f1
    change DataW.trod _ _ _ _ _ _ _ 30 ((l.drop 33).take (Tryd.prog.cellsOf 30)) = some x2 at f2
    change DataW.trod _ _ _ _ _ _ _ 9 ((l.drop 34).take (Tryd.prog.cellsOf 9)) = some x3 at f3
    change DataW.trod _ _ _ _ _ _ _ 29 ((l.drop 35).take (Tryd.prog.cellsOf 29)) = some x4 at f4
    rw [hcg] at f0 f4
    rw [hcw] at f1 f2
    rw [Tryd.cellsString] at f3
    obtain ⟨F, hF, eF⟩ := open_bytes32 (by rw [List.length_take, List.length_drop]; omega) f0
    obtain ⟨T, hT, eT⟩ := open_bytes32 (by rw [List.length_take, List.length_drop]; omega) f4
    have one : ∀ k, k < 67 → (l.drop k).take 1 = [l.getD k undef] := fun k hk => by
      rw [List.drop_eq_getElem_cons (by omega), List.getD_eq_getElem?_getD, List.getElem?_eq_getElem (by omega)]
      rfl
    rw [one 32 (by omega)] at f1
    rw [one 33 (by omega)] at f2
    rw [one 34 (by omega)] at f3
    obtain ⟨G, k, wf, e1, hG, i1, s1⟩ := open_wrs f1
    obtain ⟨G', k', wb, e2, hG', i2, s2⟩ := open_wrs f2
    obtain ⟨s, e3, rfl, _⟩ := DataW.trod_string Tryd.underlying9 f3
    injection e3 with e3
    refine ⟨F, T, s.data.toList, wf, wb, l, rfl, hF, hT, ⟨G, k, G', k', ?_, hG, hG'⟩, i1, i2, ?_⟩
    · have c1 : l = l.take 32 ++ ((l.drop 32).take 1 ++ ((l.drop 33).take 1 ++ ((l.drop 34).take 1 ++ (l.drop 35).take 32))) := by
        have e67 : (l.drop 35).take 32 = l.drop 35 := List.take_of_length_le (by rw [List.length_drop]; omega)
        rw [e67]
        have s34 : (l.drop 34).take 1 ++ l.drop 35 = l.drop 34 := by
          have := List.take_append_drop 1 (l.drop 34); rwa [List.drop_drop] at this
        have s33 : (l.drop 33).take 1 ++ l.drop 34 = l.drop 33 := by
          have := List.take_append_drop 1 (l.drop 33); rwa [List.drop_drop] at this
        have s32 : (l.drop 32).take 1 ++ l.drop 33 = l.drop 32 := by
          have := List.take_append_drop 1 (l.drop 32); rwa [List.drop_drop] at this
        rw [s34, s33, s32, List.take_append_drop]
      rw [List.drop_zero] at eF
      rw [c1, eF, eT, one 32 (by omega), one 33 (by omega), one 34 (by omega), e1, e2, e3, S_of]
      rfl
    · have hd : d = .agg [x0.1, x1.1, x2.1, (.lit (.string s.data.toList) : DataW H), x4.1] := by
        have := congrArg Prod.fst hx
        simpa using this
      subst hd
      simp only [Rows.uptoBulk, Rows.uptoBulkAll]
      omega
end

theorem star : "*" ++ "errors.errorString" = "*errors.errorString" := by decide
theorem errName (u : TypeId) (h : Tryd.prog.typeName? 3 u = some "*errors.errorString") : u = 222 :=
  typeName_ptr_named (nm := "errors.errorString") (by rw [star]; kernel_rfl) (by kernel_rfl) (by decide) u (by rw [star]; exact h)
/-- the variables of the library out of the row's list -/
theorem stabs_of_laid {W : World} {rest : List (String × DataW Unit)} (h : laidMet Tryd.prog (("internal/strconv.uint64pow10", Rows.laid_internal_strconv_uint64pow10) :: ("strconv.ErrRange", Rows.laid_strconv_ErrRange) :: ("strconv.ErrSyntax", Rows.laid_strconv_ErrSyntax) :: rest) W) : STabs W := by
  refine ⟨?_, ?_, ?_⟩
  · exact Lib.tabIs_of_head (g := 3) (by kernel_rfl) (by kernel_rfl) Tryd.underlying195 Tryd.underlying83 (by kernel_rfl) (by kernel_rfl) h
  · obtain ⟨a, s, hv, _⟩ := laid_sentinel (g := 4) (tp := 222) h.tail.tail (by kernel_rfl) (by kernel_rfl) Tryd.underlying118 errName Tryd.underlying222 Tryd.underlying224 rfl rfl Tryd.underlying9 (by kernel_rfl) (by kernel_rfl)
    exact ⟨_, _, hv⟩
  · obtain ⟨a, s, hv, _⟩ := laid_sentinel (g := 5) (tp := 222) h.tail (by kernel_rfl) (by kernel_rfl) Tryd.underlying118 errName Tryd.underlying222 Tryd.underlying224 rfl rfl Tryd.underlying9 (by kernel_rfl) (by kernel_rfl)
    exact ⟨_, _, hv⟩
end Go.Proofs.YtecamaceainfpaaDoor
