/-
  Walk: hibernaclelaw35.fixed.
-/
import Derived.Test.YtecamaceainfpaaDoorOf
import Derived.Test.YtecamaceainfpaaDoorGreat
import Derived.Test.YtecamaceainfpaaDoorPair
namespace Go.Proofs.YtecamaceainfpaaDoor
open Go.RowKit

/-- a delta's cells, and where its lists lie -/
def DelR (fa ba fb bb : List (List UInt8)) (ra rb : List UInt8) (c : List Value) (ps : Rows') : Prop :=
  ∃ G k G' k', c = dCells (dig (imgB (onto (less fa ba fb bb) fa) (onto (less fa ba fb bb) ba) (onto (less fa ba fb bb) ra)))
      (.slice G (othersTo (onto (less fa ba fb bb) fa) fb fb.length).length k) (.slice G' (othersTo (onto (less fa ba fb bb) ba) bb bb.length).length k') rb (dig (imgB fb bb rb)) ∧
    ps = [(G, wCells (othersTo (onto (less fa ba fb bb) fa) fb fb.length)), (G', wCells (othersTo (onto (less fa ba fb bb) ba) bb bb.length))]
theorem DelR.length {fa ba fb bb : List (List UInt8)} {ra rb : List UInt8} {c : List Value} {ps : Rows'} (h : DelR fa ba fb bb ra rb c ps) : c.length = 67 := by
  obtain ⟨G, k, G', k', rfl, _⟩ := h
  exact dCells_length (dig_length _) (dig_length _) _ _ _
theorem DelR.one {fa ba fb bb : List (List UInt8)} {ra rb : List UInt8} {c : List Value} {ps : Rows'} (h : DelR fa ba fb bb ra rb c ps) : ∀ v ∈ c, v.oneCell' = true := by
  obtain ⟨G, k, G', k', rfl, _⟩ := h
  exact dCells_one _ _ _ _ _ _ _ _ _
theorem OfPost.held {w w' : World} {fa ba fb bb : List (List UInt8)} {ra rb : List UInt8} {e : Ending} (h : OfPost w fa ba fb bb ra rb e w') :
    ∃ c ps, e = .returned (.agg c.toArray) ∧ DelR fa ba fb bb ra rb c ps ∧ Held w' ps ∧ Fresh w.heap.size ps ∧ Below w.heap.size w w' := by
  obtain ⟨⟨G, k, G', k', rfl, h1, h2, h3, h4⟩, hb⟩ := h
  refine ⟨_, _, rfl, ⟨G, k, G', k', rfl, rfl⟩, ?_, ?_, hb⟩
  · intro x hx
    simp only [List.mem_cons, List.not_mem_nil, or_false] at hx
    rcases hx with rfl | rfl
    · exact h1
    · exact h2
  · intro x hx
    simp only [List.mem_cons, List.not_mem_nil, or_false] at hx
    rcases hx with rfl | rfl
    · exact h3
    · exact h4
theorem dCells_32 {f : List UInt8} (hf : f.length = 32) (v1 v2 : Value) (r t : List UInt8) : (dCells f v1 v2 r t)[32]? = some v1 := by
  unfold dCells; rw [List.getElem?_append_right (by simp [hf])]; simp [hf]
theorem dCells_33 {f : List UInt8} (hf : f.length = 32) (v1 v2 : Value) (r t : List UInt8) : (dCells f v1 v2 r t)[33]? = some v2 := by
  unfold dCells; rw [List.getElem?_append_right (by simp [hf])]; simp [hf]
theorem dCells_34 {f : List UInt8} (hf : f.length = 32) (v1 v2 : Value) (r t : List UInt8) : (dCells f v1 v2 r t)[34]? = some (S r) := by
  unfold dCells; rw [List.getElem?_append_right (by simp [hf])]; simp [hf]
theorem wp_store_whole {P : Program} {o : Oper} {a : Act} {w : World} {K : Act → World → Prop} {Q : Exit → Act → World → Prop} (ty : TypeId) (x y : Operand) (ho : o.op = .store ty x y) (hdst : o.dst = none)
    (g : Nat) (hx : a.eval x = .pointer (some ⟨g, 0, none⟩)) (cs : List Value) (hy : a.eval y = .agg cs.toArray) (hi : (P.info? ty).map (·.size) = some cs.length)
    (cur : List Value) (t : TypeId) (hg : Whole w g t cur.toArray) (hfit : cur.length = cs.length) (h1 : ∀ v ∈ cs, v.oneCell' = true)
    (h : ∀ w', Whole w' g t cs.toArray → w.grownBy w' (some g) → K a w') : o.wp P a w K Q :=
  wp_store_at ty x y ho hdst g 0 hx cs hy hi cur t hg (by omega) h1 fun w' hW hG => h w' (by have := hW.out; rw [List.drop_eq_nil_of_le (by omega)] at this; simpa using this) hG.out

set_option maxRecDepth 100000 in
set_option maxHeartbeats 1000000 in
theorem fixed_any (w : World) (hT : Tabs w) :
    Calls Tryd.prog 13 #[] w fun e w' => e = .returned (.bool true) ∧ Below w.heap.size w w' := by
  have HT := Lib.hid hT
  clear hT
  go_enter Tryd.func13, Tryd.ntmps13
  go_wp2_with fail
  have hx := Whole.made (w.alloc (.cells #[.string ⟨#[120]⟩] 9)) 24 #[.slice (some ⟨w.heap.size, 0, none⟩) 1 1, .slice none 0 0, .string ⟨#[114]⟩]
  have hy := (Whole.made w 9 #[.string ⟨#[120]⟩]).block (.cells #[.slice (some ⟨w.heap.size, 0, none⟩) 1 1, .slice none 0 0, .string ⟨#[114]⟩] 24)
  have hb : Below w.heap.size w ((w.alloc (.cells #[.string ⟨#[120]⟩] 9)).alloc (.cells #[.slice (some ⟨w.heap.size, 0, none⟩) 1 1, .slice none 0 0, .string ⟨#[114]⟩] 24)) := ((Below.refl _ _).alloc (Nat.le_refl _) _).alloc (by simp) _
  rw [show (w.alloc (.cells #[.string ⟨#[120]⟩] 9)).heap.size = w.heap.size + 1 by simp] at hx
  generalize (w.alloc (.cells #[.string ⟨#[120]⟩] 9)).alloc (.cells #[.slice (some ⟨w.heap.size, 0, none⟩) 1 1, .slice none 0 0, .string ⟨#[114]⟩] 24) = w1 at *
  generalize hgx : w.heap.size = gx at *
  have HGX := Lib.hid hgx
  clear hgx
  have hlt := hx.lt
  have HX := Lib.hid hx
  have HY := Lib.hid hy
  have HB := Lib.hid hb
  clear hx hy hb
  have hl : ∀ W, Below w1.heap.size w1 W → Strs W W.heap.size (some ⟨gx, 0, none⟩) [[120]] := fun W hW k u hu => by
    match k, hu with
    | 0, hu =>
      refine ⟨⟨gx, 0, none⟩, rfl, by have := hW.size; show gx < _; omega, ?_⟩
      have := (HY.out.below hW (by omega)).cell 0
      simpa [Addr.add, S] using this.trans hu
  have HL := Lib.hid hl
  have ht : ∀ W, Below w1.heap.size w1 W → Tabs W := fun W hW => HT.out.below (by rw [HGX.out]; exact Nat.le_refl _) (HB.out.trans (hW.mono (by omega)))
  have HTW := Lib.hid ht
  clear hl ht
  refine wp_pair (by kernel_rfl) (fun v2 v3 v6 v7 v8 v9 v10 v11 => ⟨#[.bool false, .pointer (some ⟨gx + 1, 0, none⟩), v2, v3, .slice (some ⟨gx, 0, none⟩) 1 1, .agg #[.slice (some ⟨gx, 0, none⟩) 1 1, .slice none 0 0, .string ⟨#[114]⟩], v6, v7, v8, v9, v10, v11, undef, undef, undef, undef, undef, undef, undef, undef, undef, undef, undef, undef, undef, undef, undef, undef, undef, undef, undef, undef, undef, undef], []⟩) rfl
    w1.heap.size (Below.refl _ _) (Nat.le_refl _) (.agg #[.slice (some ⟨gx, 0, none⟩) 1 1, .slice none 0 0, S [114]]) (.agg #[.slice (some ⟨gx, 0, none⟩) 1 1, .slice none 0 0, S [114]]) (.agg #[.slice none 0 0, .slice none 0 0, S []]) (.agg #[.slice (some ⟨gx, 0, none⟩) 1 1, .slice none 0 0, S [114]])
    32 67 (DelR [[120]] [] [[120]] [] [114] [114]) (DelR [] [] [[120]] [] [] [114]) (by kernel_rfl) (by kernel_rfl) (by kernel_rfl) (by kernel_rfl) (by kernel_rfl) (by kernel_rfl) ?s0 ?s1 ?s3 ?s4 ?s2 ?s5 Tryd.zeroCells32.toList (by kernel_rfl) ?s6 ?s7 ?s8 ?s9 (fun _ _ h => h.length) (fun _ _ h => h.length) ?hend
  case s0 =>
    intro v2 v3 v6 v7 v8 v9 v10 v11 W K hW hK
    have c0 : W.cell? ⟨gx + 1, 0, none⟩ = some _ := (HX.out.below hW hlt).cell 0
    have c1 : W.cell? ⟨gx + 1, 1, none⟩ = some _ := (HX.out.below hW hlt).cell 1
    have c2 : W.cell? ⟨gx + 1, 2, none⟩ = some _ := (HX.out.below hW hlt).cell 2
    go_simp
    exact hK
  case s1 =>
    intro v2 v3 v6 v7 v8 v9 v10 v11 W K hW hK
    have c0 : W.cell? ⟨gx + 1, 0, none⟩ = some _ := (HX.out.below hW hlt).cell 0
    have c1 : W.cell? ⟨gx + 1, 1, none⟩ = some _ := (HX.out.below hW hlt).cell 1
    have c2 : W.cell? ⟨gx + 1, 2, none⟩ = some _ := (HX.out.below hW hlt).cell 2
    go_simp
    exact hK
  case s4 =>
    intro v2 v3 v6 v7 v8 v9 v10 v11 W K hW hK
    have c0 : W.cell? ⟨gx + 1, 0, none⟩ = some _ := (HX.out.below hW hlt).cell 0
    have c1 : W.cell? ⟨gx + 1, 1, none⟩ = some _ := (HX.out.below hW hlt).cell 1
    have c2 : W.cell? ⟨gx + 1, 2, none⟩ = some _ := (HX.out.below hW hlt).cell 2
    go_simp
    exact hK
  case s3 =>
    intro v2 v3 v6 v7 v8 v9 v10 v11 W K hW hK
    go_simp
    exact hK
  case s2 =>
    intro v2 v3 v8 v9 v10 v11 W K hW hK
    have hc := of_any W (some ⟨gx, 0, none⟩) none (some ⟨gx, 0, none⟩) none 1 0 1 0 [[120]] [] [[120]] [] [114] [114] (HTW.out W hW) (HL.out W hW) (Lies.none _ _ _) (HL.out W hW) (Lies.none _ _ _) (by decide) (by decide)
    go_simp
    refine hc.mono fun e w' he => ?_
    obtain ⟨c, ps, rfl, h1, h2, h3, h4⟩ := he.held
    exact hK c ps w' h1 h2 h3 h4
  case s5 =>
    intro v2 v3 v6 v7 v8 v11 W K hW hK
    have hc := of_any W none none (some ⟨gx, 0, none⟩) none 0 0 1 0 [] [] [[120]] [] [] [114] (HTW.out W hW) (Lies.none _ _ _) (Lies.none _ _ _) (HL.out W hW) (Lies.none _ _ _) (by decide) (by decide)
    go_simp
    refine hc.mono fun e w' he => ?_
    obtain ⟨c, ps, rfl, h1, h2, h3, h4⟩ := he.held
    exact hK c ps w' h1 h2 h3 h4
  case s6 =>
    intro v2 v3 v6 v7 v8 v9 v10 v11 W K hK
    go_simp
    exact hK
  case s7 =>
    intro v2 v3 v6 v7 v8 v9 v10 v11 W K hK
    go_simp
    exact hK
  case s8 =>
    intro p c d ps v3 v6 v7 v9 v10 v11 W K hR hW hd hK
    exact wp_store_whole 32 (.tmp 2) (.tmp 8) rfl rfl p rfl c rfl (by rw [hR.length]; kernel_rfl) d 32 hW (by rw [hd, hR.length]) hR.one hK
  case s9 =>
    intro q c d ps v2 v6 v7 v8 v9 v10 W K hR hW hd hK
    exact wp_store_whole 32 (.tmp 3) (.tmp 11) rfl rfl q rfl c rfl (by rw [hR.length]; kernel_rfl) d 32 hW (by rw [hd, hR.length]) hR.one hK
  case hend =>
    intro p q c1 c2 ps1 ps2 W hW hBp hBq hpq hR1 hR2 hH1 hH2 hWp hWq _ _ _ _
    obtain ⟨G, k, G', k', rfl, rfl⟩ := hR1
    obtain ⟨F, m, F', m', rfl, rfl⟩ := hR2
    have d1 : W.cell? ⟨p, 32, none⟩ = some (Value.slice G 0 k) := (hWp.cell 32).trans (by rw [List.getElem?_toArray]; exact dCells_32 (dig_length _) _ _ _ _)
    have d2 : W.cell? ⟨p, 33, none⟩ = some (Value.slice G' 0 k') := (hWp.cell 33).trans (by rw [List.getElem?_toArray]; exact dCells_33 (dig_length _) _ _ _ _)
    have d3 : W.cell? ⟨q, 32, none⟩ = some (Value.slice F 1 m) := (hWq.cell 32).trans (by rw [List.getElem?_toArray]; exact dCells_32 (dig_length _) _ _ _ _)
    have hF : Lies W W.heap.size F [Value.int .i64 0, S [120]] := hH2 _ (List.mem_cons_self ..)
    obtain ⟨ad, rfl, _, f0⟩ := hF 0 _ rfl
    obtain ⟨ad', e', _, f1⟩ := hF 1 _ rfl
    obtain rfl : ad = ad' := by injection e'
    have HE := Lib.hid (HB.out.trans (hW.mono (by omega)))
    generalize (dCells _ _ _ _ _).toArray = X
    generalize (dCells _ _ _ _ _).toArray = Y
    clear hWp hWq hH1 hH2 hF hW HB
    change W.cell? ad = some (Value.int .i64 0) at f0
    change W.cell? ⟨ad.block, ad.off + 1, none⟩ = some (S [120]) at f1
    go_wp2
    go_ret
    exact ⟨rfl, by rw [HGX.out]; exact HE.out⟩
end Go.Proofs.YtecamaceainfpaaDoor
