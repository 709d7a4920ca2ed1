/-
  Walk: hibernaclelaw34.alive.
-/
import Derived.Test.YtmmfcjkabpffeaaGreatDoorFzBeginZ
import Derived.Test.YtmmfcjkabpffeaaGreatDoorFzNone
namespace Go.Proofs.YtmmfcjkabpffeaaGreatDoor
open Go.RowKit

theorem lies_setne {w : World} {A : Option Addr} {xs : List Value} {p : Addr} {u : Value} (h : Lies w w.heap.size A xs) (hg : ∀ ad, A = some ad → xs ≠ [] → ad.block ≠ p.block) : Lies (w.setCell p u) (w.setCell p u).heap.size A xs := fun k v hv => by
  obtain ⟨ad, e, hb, hc⟩ := h k v hv
  refine ⟨ad, e, by simpa [World.setCell] using hb, ?_⟩
  rw [World.cell?_setCell_other _ _ _ _ (fun e2 => hg ad e (by rintro rfl; simp at hv) (by rw [e2, add_block]))]
  exact hc
theorem lies_setn4 {w : World} {A : Option Addr} {xs : List Value} {q : Nat} {a b c d : Value} (h : Lies w w.heap.size A xs) (hg : ∀ ad, A = some ad → xs ≠ [] → ad.block ≠ q) :
    Lies ((((w.setCell ⟨q, 0, none⟩ a).setCell ⟨q, 1, none⟩ b).setCell ⟨q, 2, none⟩ c).setCell ⟨q, 3, none⟩ d) ((((w.setCell ⟨q, 0, none⟩ a).setCell ⟨q, 1, none⟩ b).setCell ⟨q, 2, none⟩ c).setCell ⟨q, 3, none⟩ d).heap.size A xs :=
  lies_setne (lies_setne (lies_setne (lies_setne h hg) hg) hg) hg
theorem whole_far4 {w : World} {g q : Nat} {t : TypeId} {cs : Array Value} {a b c d : Value} (h : Whole w g t cs) (hp : g ≠ q) :
    Whole ((((w.setCell ⟨q, 0, none⟩ a).setCell ⟨q, 1, none⟩ b).setCell ⟨q, 2, none⟩ c).setCell ⟨q, 3, none⟩ d) g t cs :=
  (((h.far (p := ⟨q, 0, none⟩) hp a).far (p := ⟨q, 1, none⟩) hp b).far (p := ⟨q, 2, none⟩) hp c).far (p := ⟨q, 3, none⟩) hp d
theorem wp_load_at {P : Program} {o : Oper} {a : Act} {w : World} {K : Act → World → Prop} {Q : Exit → Act → World → Prop} (ty : TypeId) (x : Operand) (ho : o.op = .load ty x)
    (ad : Addr) (hx : a.eval x = .pointer (some ad)) (cs : List Value) (d : TypeDesc) (hc : ∀ j v, cs[j]? = some v → w.cell? (ad.add j) = some v)
    (hu : P.underlying ty = some d) (hd : (match d with | .struct _ | .array _ _ => true | _ => false) = true) (hi : (P.info? ty).map (·.size) = some cs.length)
    (h : K (a.put o.dst (.agg cs.toArray)) w) : o.wp P a w K Q := by
  unfold Oper.wp execOp
  simp only [ho, hx, Instr.loadAt, Instr.sureAddr, Sem.run_bind, Sem.run_pure, Result.andThen_ok, run_loadVar_at w ad ty cs d hc hu hd hi]
  exact h
/-- what holds while the region runs -/
def FzA6 (w8 : World) (gx g3 gs gi ga : Nat) (G G' J J' : Option Addr) (k k' n n' : Nat) (v11 v12 : Value) (M1 M2 : List Value) (fl1 bl1 fl2 bl2 : List Kp) (Ls : Nat → Bool) (a : Act) (W : World) : Prop :=
  ∃ u23 u24 u25 u26 u27 u28 u6 A1 m1 B1 n1 A2 m2 B2 n2 bp, a = ⟨#[.bool false, .pointer (some ⟨gx + 1 + 1, 0, none⟩), .pointer (some ⟨g3, 0, none⟩), .pointer (some ⟨gs, 0, none⟩), .pointer (some ⟨gi, 0, none⟩), .int .i64 12, u6, undef, undef, .slice (some ⟨gx, 0, none⟩) 2 2, .slice (some ⟨gx + 1, 0, none⟩) 1 1, v11, v12, .agg M1.toArray, .slice (some ⟨ga, 0, none⟩) 2 2, .pointer (some ⟨g3, 4, none⟩), .agg M1.toArray, .agg #[.int .u64 7, .slice G (zerosK 2).length k, .slice G' (zerosK 1).length k', S []], .tuple #[.agg #[.slice J 0 n, .slice J' 0 n', S []], .int .i64 12], .agg #[.int .u64 7, .slice G (zerosK 2).length k, .slice G' (zerosK 1).length k', S []], .tuple #[.agg #[.slice J 0 n, .slice J' 0 n', S []], .int .i64 12], .agg #[.slice J 0 n, .slice J' 0 n', S []], .int .i64 12, u23, u24, u25, u26, u27, u28, undef, undef, undef, undef, undef, undef, undef, undef, undef, undef, undef, undef, undef, undef, undef, undef, undef, undef, undef, undef, undef, undef, undef, undef, undef, undef, undef, undef, undef, undef, undef, undef, undef, undef, undef, undef, undef, undef, undef, undef, undef, undef, undef, undef, undef, undef, undef, undef, undef, undef, undef, undef, undef, undef], []⟩ ∧ Below w8.heap.size w8 W ∧ w8.heap.size ≤ W.heap.size ∧ (Ls 0 = true → u23 = .agg #[.int .u64 7, .slice G (zerosK 2).length k, .slice G' (zerosK 1).length k', S []]) ∧ (Ls 1 = true → u24 = .agg M1.toArray) ∧ (Ls 2 = true → u25 = .agg M2.toArray) ∧ (Ls 3 = true → u26 = .agg #[.int .u64 7, .slice A1 fl1.length m1, .slice B1 bl1.length n1, S []] ∧ Lies W W.heap.size A1 (kCells fl1) ∧ Lies W W.heap.size B1 (kCells bl1)) ∧ (Ls 4 = true → u27 = .agg M2.toArray) ∧ (Ls 5 = true → u28 = .agg #[.int .u64 7, .slice A2 fl2.length m2, .slice B2 bl2.length n2, S []] ∧ Lies W W.heap.size A2 (kCells fl2) ∧ Lies W W.heap.size B2 (kCells bl2)) ∧ (Ls 6 = true → u6 = .pointer (some ⟨bp, 0, none⟩) ∧ w8.heap.size ≤ bp ∧ bp < W.heap.size) ∧ (Ls 6 = true → Ls 7 = false → Whole W bp 43 #[.int .u64 0, .slice none 0 0, .slice none 0 0, S []]) ∧ (Ls 7 = true → Whole W bp 43 #[.int .u64 7, .slice A2 fl2.length m2, .slice B2 bl2.length n2, S []]) ∧ (Ls 7 = true → ∀ j ∈ [3, 5, 6], Ls j = true) ∧ (Ls 3 = true → Ls 6 = true → ∀ ad, A1 = some ad → (kCells fl1) ≠ [] → ad.block ≠ bp) ∧ (Ls 3 = true → Ls 6 = true → ∀ ad, B1 = some ad → (kCells bl1) ≠ [] → ad.block ≠ bp) ∧ (Ls 5 = true → Ls 6 = true → ∀ ad, A2 = some ad → (kCells fl2) ≠ [] → ad.block ≠ bp) ∧ (Ls 5 = true → Ls 6 = true → ∀ ad, B2 = some ad → (kCells bl2) ≠ [] → ad.block ≠ bp)
def fs1 : List (List UInt8) := [[97], [98]]
def bs1 : List (List UInt8) := [[99]]
def fs2 : List (List UInt8) := [[97], [120]]
theorem mach_is (w : World) (B f l : Nat) (fs bs : List (List UInt8)) (hf : fs.length = 2) (hb : bs.length = 1) (hF : Strs w B (some ⟨f, 0, none⟩) fs) (hL : Strs w B (some ⟨l, 0, none⟩) bs) :
    IsM w B [.int .u64 7, .int .i64 0, .int .i64 0, .int .i64 0, .slice (some ⟨f, 0, none⟩) 2 2, .slice none 0 0, .int .i64 0, S [], .slice none 0 0, .int .i64 0, S [], .bool false, .int .u64 0, .slice (some ⟨l, 0, none⟩) 1 1, .slice none 0 0, .int .i64 0, .slice none 0 0] fs bs := by
  refine ⟨rfl, ?_, some ⟨f, 0, none⟩, 2, some ⟨l, 0, none⟩, 1, by rw [hf]; rfl, by rw [hb]; rfl, hF, hL⟩
  intro v hv
  simp only [List.mem_cons, List.not_mem_nil, or_false] at hv
  rcases hv with rfl | rfl | rfl | rfl | rfl | rfl | rfl | rfl | rfl | rfl | rfl | rfl | rfl | rfl | rfl | rfl | rfl <;> rfl
theorem mach_boxed {W W' : World} {V : List Value} (hV : V.length = 17) (N : Hid (Whole W' W.heap.size 30 (([.int .u64 0, .int .i64 0, .int .i64 0, .int .i64 0, .slice none 0 0, .slice none 0 0, .int .i64 0, S [], .slice none 0 0, .int .i64 0, S [], .bool false, .int .u64 0, .slice none 0 0, .slice none 0 0, .int .i64 0, .slice none 0 0] : List Value).take 0 ++ (V ++ ([.int .u64 0, .int .i64 0, .int .i64 0, .int .i64 0, .slice none 0 0, .slice none 0 0, .int .i64 0, S [], .slice none 0 0, .int .i64 0, S [], .bool false, .int .u64 0, .slice none 0 0, .slice none 0 0, .int .i64 0, .slice none 0 0] : List Value).drop (0 + V.length))).toArray)) : Whole W' W.heap.size 30 V.toArray := by
  have := N.out
  rwa [hV, show ([.int .u64 0, .int .i64 0, .int .i64 0, .int .i64 0, .slice none 0 0, .slice none 0 0, .int .i64 0, S [], .slice none 0 0, .int .i64 0, S [], .bool false, .int .u64 0, .slice none 0 0, .slice none 0 0, .int .i64 0, .slice none 0 0] : List Value).drop (0 + 17) = [] from rfl, List.take_zero, List.nil_append, List.append_nil] at this
theorem whole_strs {w : World} {g : Nat} {l : List (List UInt8)} (h : Whole w g 9 (l.map S).toArray) : Strs w w.heap.size (some ⟨g, 0, none⟩) l := fun j u hu => by
  refine ⟨_, rfl, h.lt, ?_⟩
  rw [show (⟨g, 0, none⟩ : Addr).add j = ⟨g, j, none⟩ by unfold Addr.add; split <;> simp_all]
  rw [h.cell, ← hu]; exact List.getElem?_toArray
set_option maxRecDepth 100000 in
set_option maxHeartbeats 4000000 in
theorem alive_any (w : World) :
    Calls Tryz.prog 14 #[] w fun e w' => e = .returned (.bool true) ∧ Below w.heap.size w w' := by
  have hx2 := Whole.made ((w.alloc (.cells #[S [97], S [98]] 9)).alloc (.cells #[S [99]] 9)) 30 #[.int .u64 7, .int .i64 0, .int .i64 0, .int .i64 0, .slice (some ⟨w.heap.size, 0, none⟩) 2 2, .slice none 0 0, .int .i64 0, S [], .slice none 0 0, .int .i64 0, S [], .bool false, .int .u64 0, .slice (some ⟨w.heap.size + 1, 0, none⟩) 1 1, .slice none 0 0, .int .i64 0, .slice none 0 0]
  have hstr := ((Whole.made w 9 #[S [97], S [98]]).block (.cells #[S [99]] 9)).block (.cells #[.int .u64 7, .int .i64 0, .int .i64 0, .int .i64 0, .slice (some ⟨w.heap.size, 0, none⟩) 2 2, .slice none 0 0, .int .i64 0, S [], .slice none 0 0, .int .i64 0, S [], .bool false, .int .u64 0, .slice (some ⟨w.heap.size + 1, 0, none⟩) 1 1, .slice none 0 0, .int .i64 0, .slice none 0 0] 30)
  have hstr' := (Whole.made (w.alloc (.cells #[S [97], S [98]] 9)) 9 #[S [99]]).block (.cells #[.int .u64 7, .int .i64 0, .int .i64 0, .int .i64 0, .slice (some ⟨w.heap.size, 0, none⟩) 2 2, .slice none 0 0, .int .i64 0, S [], .slice none 0 0, .int .i64 0, S [], .bool false, .int .u64 0, .slice (some ⟨w.heap.size + 1, 0, none⟩) 1 1, .slice none 0 0, .int .i64 0, .slice none 0 0] 30)
  have hbb : Below w.heap.size w (((w.alloc (.cells #[S [97], S [98]] 9)).alloc (.cells #[S [99]] 9)).alloc (.cells #[.int .u64 7, .int .i64 0, .int .i64 0, .int .i64 0, .slice (some ⟨w.heap.size, 0, none⟩) 2 2, .slice none 0 0, .int .i64 0, S [], .slice none 0 0, .int .i64 0, S [], .bool false, .int .u64 0, .slice (some ⟨w.heap.size + 1, 0, none⟩) 1 1, .slice none 0 0, .int .i64 0, .slice none 0 0] 30)) := (((Below.refl _ _).alloc (Nat.le_refl _) _).alloc (by simp) _).alloc (by simp; omega) _
  rw [show ((w.alloc (.cells #[S [97], S [98]] 9)).alloc (.cells #[S [99]] 9)).heap.size = w.heap.size + 1 + 1 by simp] at hx2
  rw [show (w.alloc (.cells #[S [97], S [98]] 9)).heap.size = w.heap.size + 1 by simp] at hstr'
  go_enter Tryz.func14, Tryz.ntmps14
  go_upto_region 2 with (fail)
  change Code.wp _ _ _ _ (((w.alloc (.cells #[S [97], S [98]] 9)).alloc (.cells #[S [99]] 9)).alloc (.cells #[.int .u64 7, .int .i64 0, .int .i64 0, .int .i64 0, .slice (some ⟨w.heap.size, 0, none⟩) 2 2, .slice none 0 0, .int .i64 0, S [], .slice none 0 0, .int .i64 0, S [], .bool false, .int .u64 0, .slice (some ⟨w.heap.size + 1, 0, none⟩) 1 1, .slice none 0 0, .int .i64 0, .slice none 0 0] 30))
  generalize ((w.alloc (.cells #[S [97], S [98]] 9)).alloc (.cells #[S [99]] 9)).alloc (.cells #[.int .u64 7, .int .i64 0, .int .i64 0, .int .i64 0, .slice (some ⟨w.heap.size, 0, none⟩) 2 2, .slice none 0 0, .int .i64 0, S [], .slice none 0 0, .int .i64 0, S [], .bool false, .int .u64 0, .slice (some ⟨w.heap.size + 1, 0, none⟩) 1 1, .slice none 0 0, .int .i64 0, .slice none 0 0] 30) = w2 at *
  generalize hgx : w.heap.size = gx at *
  have HGX := Lib.hid hgx
  clear hgx
  obtain ⟨M1, HM1⟩ : ∃ z : List Value, Hid (z = [.int .u64 7, .int .i64 0, .int .i64 0, .int .i64 0, .slice (some ⟨gx, 0, none⟩) 2 2, .slice none 0 0, .int .i64 0, S [], .slice none 0 0, .int .i64 0, S [], .bool false, .int .u64 0, .slice (some ⟨gx + 1, 0, none⟩) 1 1, .slice none 0 0, .int .i64 0, .slice none 0 0]) := ⟨_, Lib.hid rfl⟩
  have HX2 : Hid (Whole w2 (gx + 1 + 1) 30 M1.toArray) := Lib.hid (by rw [HM1.out]; exact hx2)
  have ML : Hid (M1.length = 17) := Lib.hid (by rw [HM1.out]; rfl)
  have MO : Hid (∀ v ∈ M1, v.oneCell' = true) := Lib.hid (by
    rw [HM1.out]; intro v hv
    simp only [List.mem_cons, List.not_mem_nil, or_false] at hv
    rcases hv with rfl | rfl | rfl | rfl | rfl | rfl | rfl | rfl | rfl | rfl | rfl | rfl | rfl | rfl | rfl | rfl | rfl <;> rfl)
  have MI : Hid ((Tryz.prog.info? 30).map (·.size) = some M1.length) := Lib.hid (by rw [ML.out]; kernel_rfl)
  have MF : Hid (0 + M1.length ≤ ([.int .u64 0, .int .i64 0, .int .i64 0, .int .i64 0, .slice none 0 0, .slice none 0 0, .int .i64 0, S [], .slice none 0 0, .int .i64 0, S [], .bool false, .int .u64 0, .slice none 0 0, .slice none 0 0, .int .i64 0, .slice none 0 0] : List Value).length) := Lib.hid (by rw [ML.out]; decide)
  have HSTR := Lib.hid hstr
  have HSTR' := Lib.hid hstr'
  have HB2 := Lib.hid hbb
  generalize (Value.agg #[Value.slice (some ⟨gx + 1, 0, none⟩) 1 1, Value.slice none 0 0, Value.int .i64 0]) = v11
  generalize (Value.agg #[.int .u64 7, .int .i64 0, .int .i64 0, .int .i64 0, .slice (some ⟨gx, 0, none⟩) 2 2, .slice none 0 0, .int .i64 0, S [], .slice none 0 0, .int .i64 0, S [], .bool false, .int .u64 0, .slice (some ⟨gx + 1, 0, none⟩) 1 1, .slice none 0 0, .int .i64 0, .slice none 0 0]) = v12
  have HR2 := Lib.hid HX2.out.reads
  have HZ2 := Lib.hid (Whole.made w2 30 #[.int .u64 0, .int .i64 0, .int .i64 0, .int .i64 0, .slice none 0 0, .slice none 0 0, .int .i64 0, S [], .slice none 0 0, .int .i64 0, S [], .bool false, .int .u64 0, .slice none 0 0, .slice none 0 0, .int .i64 0, .slice none 0 0])
  clear hx2 hstr hstr' hbb
  go_upto_region 3 with (first
    | (refine wpList_load_at rfl 30 (.tmp 1) rfl ⟨gx + 1 + 1, 0, none⟩ rfl M1 _ HR2.out Tryz.underlying30 rfl MI.out ?_)
    | (refine wpList_store_at rfl 30 (.tmp 2) (.tmp 13) rfl rfl w2.heap.size 0 rfl M1 rfl MI.out [.int .u64 0, .int .i64 0, .int .i64 0, .int .i64 0, .slice none 0 0, .slice none 0 0, .int .i64 0, S [], .slice none 0 0, .int .i64 0, S [], .bool false, .int .u64 0, .slice none 0 0, .slice none 0 0, .int .i64 0, .slice none 0 0] 30 HZ2.out MF.out MO.out ?_; intro w3 N3 F3))
  have n3 := mach_boxed ML.out N3
  have b3 : Below w2.heap.size w2 w3 := below_grown ((Below.refl _ _).alloc (Nat.le_refl _) _) F3.out (by simp) (Nat.le_refl _)
  have HB3 := Lib.hid (HB2.out.trans (b3.mono (by have := HX2.out.lt; omega)))
  have hl2 := HX2.out.lt
  have HX3 := Lib.hid (HX2.out.below b3 hl2)
  have HS3 := Lib.hid (HSTR.out.below b3 (by omega))
  have HS3' := Lib.hid (HSTR'.out.below b3 (by omega))
  generalize hg3 : w2.heap.size = g3 at *
  have HN3 := Lib.hid n3
  have hl3 := n3.lt
  clear N3 F3 HZ2 HR2 HX2 HSTR HSTR' b3 hg3 HB2
  have i4 : M1.toArray[4]? = some (.slice (some ⟨gx, 0, none⟩) 2 2) := by rw [HM1.out]; rfl
  have c4 : w3.cell? ⟨g3, 4, none⟩ = some (.slice (some ⟨gx, 0, none⟩) 2 2) := (n3.cell 4).trans i4
  have f4 : w3.frozen? ⟨g3, 4, none⟩ = false := n3.free 4
  obtain ⟨M2, HM2⟩ : ∃ z : List Value, Hid (z = [.int .u64 7, .int .i64 0, .int .i64 0, .int .i64 0, .slice (some ⟨w3.heap.size, 0, none⟩) 2 2, .slice none 0 0, .int .i64 0, S [], .slice none 0 0, .int .i64 0, S [], .bool false, .int .u64 0, .slice (some ⟨gx + 1, 0, none⟩) 1 1, .slice none 0 0, .int .i64 0, .slice none 0 0]) := ⟨_, Lib.hid rfl⟩
  have hx4 : Whole ((w3.setCell ⟨g3, 4, none⟩ (.slice (some ⟨w3.heap.size, 0, none⟩) 2 2)).alloc (.cells #[S [97], S [120]] 9)) (gx + 1 + 1) 30 M1.toArray := (HX3.out.far (p := ⟨g3, 4, none⟩) (by show gx + 1 + 1 ≠ g3; omega) _).block _
  have hn4 : Whole ((w3.setCell ⟨g3, 4, none⟩ (.slice (some ⟨w3.heap.size, 0, none⟩) 2 2)).alloc (.cells #[S [97], S [120]] 9)) g3 30 M2.toArray := by
    have := (n3.set 4 (.slice (some ⟨w3.heap.size, 0, none⟩) 2 2)).block (.cells #[S [97], S [120]] 9)
    rw [HM2.out]
    rw [HM1.out] at this
    exact this
  have hs4 : Whole ((w3.setCell ⟨g3, 4, none⟩ (.slice (some ⟨w3.heap.size, 0, none⟩) 2 2)).alloc (.cells #[S [97], S [120]] 9)) gx 9 #[S [97], S [98]] := (HS3.out.far (p := ⟨g3, 4, none⟩) (by show gx ≠ g3; omega) _).block _
  have hs4' : Whole ((w3.setCell ⟨g3, 4, none⟩ (.slice (some ⟨w3.heap.size, 0, none⟩) 2 2)).alloc (.cells #[S [97], S [120]] 9)) (gx + 1) 9 #[S [99]] := (HS3'.out.far (p := ⟨g3, 4, none⟩) (by show gx + 1 ≠ g3; omega) _).block _
  have ht4 : Whole ((w3.setCell ⟨g3, 4, none⟩ (.slice (some ⟨w3.heap.size, 0, none⟩) 2 2)).alloc (.cells #[S [97], S [120]] 9)) w3.heap.size 9 #[S [97], S [120]] := by have := Whole.made (w3.setCell ⟨g3, 4, none⟩ (.slice (some ⟨w3.heap.size, 0, none⟩) 2 2)) 9 #[S [97], S [120]]; simpa [World.setCell] using this
  have hB4 := (HB3.out.setCell (p := ⟨g3, 4, none⟩) (by show gx ≤ g3; omega) (.slice (some ⟨w3.heap.size, 0, none⟩) 2 2)).alloc (by have := HB3.out.size; simp [World.setCell]; omega) (.cells #[S [97], S [120]] 9)
  go_upto_region 4 with (fail)
  change Code.wp _ _ _ _ ((w3.setCell ⟨g3, 4, none⟩ (.slice (some ⟨w3.heap.size, 0, none⟩) 2 2)).alloc (.cells #[S [97], S [120]] 9))
  clear c4 f4 i4 n3 HN3 HX3 HS3 HS3' HB3
  generalize (w3.setCell ⟨g3, 4, none⟩ (.slice (some ⟨w3.heap.size, 0, none⟩) 2 2)).alloc (.cells #[S [97], S [120]] 9) = w4 at *
  generalize w3.heap.size = ga at *
  have hla := ht4.lt
  have HX4 := Lib.hid hx4
  have HN4 := Lib.hid hn4
  have HB4 := Lib.hid hB4
  have hl4 : gx + 1 + 1 < w4.heap.size := hx4.lt
  have hl4' : g3 < w4.heap.size := hn4.lt
  have SF : Hid (∀ W, Below w4.heap.size w4 W → Strs W w4.heap.size (some ⟨gx, 0, none⟩) fs1 ∧ Strs W w4.heap.size (some ⟨gx + 1, 0, none⟩) bs1 ∧ Strs W w4.heap.size (some ⟨ga, 0, none⟩) fs2) := Lib.hid fun W hW =>
    ⟨(whole_strs (l := fs1) hs4).below hW, (whole_strs (l := bs1) hs4').below hW, (whole_strs (l := fs2) ht4).below hW⟩
  have IM1 : Hid (∀ W B, Below w4.heap.size w4 W → w4.heap.size ≤ B → IsM W B M1 fs1 bs1) := Lib.hid fun W B hW hB => by
    rw [HM1.out]; exact mach_is W B gx (gx + 1) fs1 bs1 rfl rfl ((SF.out W hW).1.wide hB) ((SF.out W hW).2.1.wide hB)
  have IM2 : Hid (∀ W B, Below w4.heap.size w4 W → w4.heap.size ≤ B → IsM W B M2 fs2 bs1) := Lib.hid fun W B hW hB => by
    rw [HM2.out]; exact mach_is W B ga (gx + 1) fs2 bs1 rfl rfl ((SF.out W hW).2.2.wide hB) ((SF.out W hW).2.1.wide hB)
  have M2L : Hid (M2.length = 17) := Lib.hid (by rw [HM2.out]; rfl)
  have MI2 : Hid ((Tryz.prog.info? 30).map (·.size) = some M2.length) := Lib.hid (by rw [M2L.out]; kernel_rfl)
  have HR1 : Hid (∀ W, Below w4.heap.size w4 W → ∀ j v, M1[j]? = some v → W.cell? ((⟨gx + 1 + 1, 0, none⟩ : Addr).add j) = some v) := Lib.hid fun W hW => (HX4.out.below hW hl4).reads
  have HR2 : Hid (∀ W, Below w4.heap.size w4 W → ∀ j v, M2[j]? = some v → W.cell? ((⟨g3, 0, none⟩ : Addr).add j) = some v) := Lib.hid fun W hW => (HN4.out.below hW hl4').reads
  have CB : Hid (Calls Tryz.prog 17 #[.agg M1.toArray] w4 fun e w' => ShotPost w4 7 (zerosK 2) (zerosK 1) [] e w' ∧ Below w4.heap.size w4 w') := Lib.hid (by
    have := begin_cells w4 (.int .i64 0) (.int .i64 0) (.int .i64 0) (.slice none 0 0) (.int .i64 0) (S []) (.slice none 0 0) (.int .i64 0) (S []) (.bool false) (.int .u64 0) (.slice none 0 0) (.int .i64 0) (.slice none 0 0) (some ⟨gx, 0, none⟩) (some ⟨gx + 1, 0, none⟩) 2 1 fs1 bs1 [] 7 (by decide) (by decide)
      (fun W _ => (imgOf_bad W (some ⟨gx, 0, none⟩) (some ⟨gx + 1, 0, none⟩) 2 2 1 1).mono fun e w' h => ⟨⟨none, 0, 0, none, 0, 0, h.1⟩, h.2⟩)
    rw [HM1.out]
    exact this)
  clear hx4 hn4 hs4 hs4' ht4 hB4
  go_wp2_with (refine wpList_load_at rfl 30 (.tmp 1) rfl ⟨gx + 1 + 1, 0, none⟩ rfl M1 _ (HR1.out _ (Below.refl _ _)) Tryz.underlying30 rfl MI.out ?_)
  refine CB.out.mono ?_
  rintro e w5 ⟨⟨G, k, G', k', rfl, p1, p2, _, _⟩, hb5⟩
  have hlz2 : (zerosK 2).length = 2 := rfl
  have HB5 := Lib.hid hb5
  have HP1 := Lib.hid (Lies.block' p1 (.cells #[.int .u64 7, .slice G (zerosK 2).length k, .slice G' (zerosK 1).length k', S []] 43))
  have HP2 := Lib.hid (Lies.block' p2 (.cells #[.int .u64 7, .slice G (zerosK 2).length k, .slice G' (zerosK 1).length k', S []] 43))
  have hs6 := Whole.made w5 43 #[.int .u64 7, .slice G (zerosK 2).length k, .slice G' (zerosK 1).length k', S []]
  have hb6 := hb5.alloc hb5.size (.cells #[.int .u64 7, .slice G (zerosK 2).length k, .slice G' (zerosK 1).length k', S []] 43)
  go_upto_region 5 with (fail)
  change Code.wp _ _ _ _ (w5.alloc (.cells #[.int .u64 7, .slice G (zerosK 2).length k, .slice G' (zerosK 1).length k', S []] 43))
  clear p1 p2 hb5 CB HB5
  generalize w5.alloc (.cells #[.int .u64 7, .slice G (zerosK 2).length k, .slice G' (zerosK 1).length k', S []] 43) = w6 at *
  generalize w5.heap.size = gs at *
  have HS6 := Lib.hid hs6
  have HB6 := Lib.hid hb6
  have hl6 := hs6.lt
  have s0 : w6.cell? ⟨gs, 0, none⟩ = some (.int .u64 7) := hs6.cell 0
  have s1 : w6.cell? ⟨gs, 1, none⟩ = some (.slice G (zerosK 2).length k) := hs6.cell 1
  have s2 : w6.cell? ⟨gs, 2, none⟩ = some (.slice G' (zerosK 1).length k') := hs6.cell 2
  have s3 : w6.cell? ⟨gs, 3, none⟩ = some (S []) := hs6.cell 3
  have CI := Lib.hid (imageS_any w6 G G' k k' 7 (zerosK 2) (zerosK 1) [] HP1.out HP2.out (by decide) (by decide))
  rw [show imgK (zerosK 2) (zerosK 1) [] = (12, [], [], []) from by unfold imgK; rw [leftL_zerosK, leftL_zerosK, if_pos (by decide)]] at CI
  clear hs6 hb6 hlz2
  go_wp2_with fail
  refine CI.out.mono ?_
  rintro e w7 ⟨⟨J, n, J', n', rfl, _, _⟩, hb7⟩
  have HP1b := Lib.hid (Lies.block' (Lies.wide (Lies.below HP1.out hb7) hb7.size) (.cells #[.slice J 0 n, .slice J' 0 n', S []] 36))
  have HP2b := Lib.hid (Lies.block' (Lies.wide (Lies.below HP2.out hb7) hb7.size) (.cells #[.slice J 0 n, .slice J' 0 n', S []] 36))
  have hs8 := (HS6.out.below hb7 hl6).block (.cells #[.slice J 0 n, .slice J' 0 n', S []] 36)
  have hb8 := (HB6.out.trans (hb7.mono HB6.out.size)).alloc (Nat.le_trans HB6.out.size hb7.size) (.cells #[.slice J 0 n, .slice J' 0 n', S []] 36)
  clear s0 s1 s2 s3
  go_upto_region 6 with (fail)
  change Code.wp _ _ _ _ (w7.alloc (.cells #[.slice J 0 n, .slice J' 0 n', S []] 36))
  clear HP1 HP2 CI hb7 HS6 HB6 hl6
  generalize w7.alloc (.cells #[.slice J 0 n, .slice J' 0 n', S []] 36) = w8 at *
  generalize w7.heap.size = gi at *
  have HS8 := Lib.hid hs8
  have HB8 := Lib.hid hb8
  have hl8 := hs8.lt
  have hz8 := hb8.size
  clear hs8 hb8
  obtain ⟨fl1, HW1⟩ : ∃ z, Hid ((keepRec (wentF fs2) 0 (zerosK 2) fs1 0).1 = z) := ⟨_, Lib.hid rfl⟩
  obtain ⟨bl1, HW2⟩ : ∃ z, Hid ((keepRec (wentF bs1) 0 (zerosK 1) bs1 0).1 = z) := ⟨_, Lib.hid rfl⟩
  obtain ⟨fl2, HW3⟩ : ∃ z, Hid ((keepRec pumpF 0 fl1 fs2 9).1 = z) := ⟨_, Lib.hid rfl⟩
  obtain ⟨bl2, HW4⟩ : ∃ z, Hid ((keepRec pumpF 0 bl1 bs1 (keepRec pumpF 0 fl1 fs2 9).2).1 = z) := ⟨_, Lib.hid rfl⟩
  have HWW : Hid (∀ W, Below w8.heap.size w8 W → Below w4.heap.size w4 W) := Lib.hid fun W hW => HB8.out.trans (hW.mono hz8)
  have CW : Hid (∀ W, Below w8.heap.size w8 W → Calls Tryz.prog 36 #[.agg #[.int .u64 7, .slice G (zerosK 2).length k, .slice G' (zerosK 1).length k', S []], .agg M1.toArray, .agg M2.toArray] W fun e w' => (∃ H m H' m', e = .returned (.agg #[.int .u64 7, .slice H fl1.length m, .slice H' bl1.length m', S []]) ∧ Kps w' w'.heap.size H fl1 ∧ Kps w' w'.heap.size H' bl1 ∧ (∀ ad, H = some ad → W.heap.size ≤ ad.block) ∧ (∀ ad, H' = some ad → W.heap.size ≤ ad.block)) ∧ Below W.heap.size W w') := Lib.hid fun W hW => by
    have hz := hW.size
    have := went_any W G G' k k' 7 (zerosK 2) (zerosK 1) [] M1 fs1 bs1 M2 fs2 bs1 ((Lies.below HP1b.out hW).wide hz) ((Lies.below HP2b.out hW).wide hz) (IM1.out W W.heap.size (HWW.out W hW) (by omega)) (IM2.out W W.heap.size (HWW.out W hW) (by omega)) (by decide) (by decide) (by decide) (by decide)
    rw [HW1.out, HW2.out] at this
    exact this
  have CP : Hid (∀ W H H' m m', Below w8.heap.size w8 W → Kps W W.heap.size H fl1 → Kps W W.heap.size H' bl1 → Calls Tryz.prog 35 #[.agg #[.int .u64 7, .slice H fl1.length m, .slice H' bl1.length m', S []], .agg M2.toArray, .int .i64 9] W fun e w' => (∃ H m H' m', e = .returned (.agg #[.int .u64 7, .slice H fl2.length m, .slice H' bl2.length m', S []]) ∧ Kps w' w'.heap.size H fl2 ∧ Kps w' w'.heap.size H' bl2 ∧ (∀ ad, H = some ad → W.heap.size ≤ ad.block) ∧ (∀ ad, H' = some ad → W.heap.size ≤ ad.block)) ∧ Below W.heap.size W w') := Lib.hid fun W H H' m m' hW q1 q2 => by
    have hz := hW.size
    have := pump_any W H H' m m' 7 fl1 bl1 [] M2 fs2 bs1 9 (by unfold inJ; omega) q1 q2 (IM2.out W W.heap.size (HWW.out W hW) (by omega)) (by rw [← HW1.out, keep_length]; decide) (by rw [← HW2.out, keep_length]; decide) (by decide) (by decide)
    rw [HW3.out, HW4.out] at this
    exact this
  have HF2 : Hid (fl2 = [(true, [97]), (true, [98])]) := Lib.hid (by rw [← HW3.out, ← HW1.out]; rfl)
  have HG2 : Hid (bl2 = [(true, [99])]) := Lib.hid (by rw [← HW4.out, ← HW2.out, ← HW1.out]; rfl)
  clear HW1 HW2 HW3 HW4
  refine wp_region_set (by kernel_rfl) (FzA6 w8 gx g3 gs gi ga G G' J J' k k' n n' v11 v12 M1 M2 fl1 bl1 fl2 bl2) (downOk_spec (by kernel_rfl)) ?init ?step ?fin
  case init =>
    unfold FzA6
    refine ⟨_, _, _, _, _, _, _, none, 0, none, 0, none, 0, none, 0, 0, rfl, (Below.refl _ _).drew, Nat.le_refl _, (fun h => by cases h), (fun h => by cases h), (fun h => by cases h), (fun h => by cases h), (fun h => by cases h), (fun h => by cases h), (fun h => by cases h), (fun h => by cases h), (fun h => by cases h), (fun h => by cases h), (fun h => by cases h), (fun h => by cases h), (fun h => by cases h), (fun h => by cases h)⟩
  case step =>
    intro i o ho Ls a W hLi hed hJ
    unfold FzA6 at hJ
    obtain ⟨u23, u24, u25, u26, u27, u28, u6, A1, m1, B1, n1, A2, m2, B2, n2, bp, rfl, hB, hz, h0, h1, h2, h3, h4, h5, h6, z6, h7, k7, f3_6_0, f3_6_1, f5_6_0, f5_6_1⟩ := hJ
    match i, ho with
    | 0, ho =>
      have ho' := Option.some.inj ho
      subst ho'
      refine wpOp_of ho rfl ?_
      have c0 : W.cell? ⟨gs, 0, none⟩ = some (.int .u64 7) := (HS8.out.below hB hl8).cell 0
      have c1 : W.cell? ⟨gs, 1, none⟩ = some (.slice G (zerosK 2).length k) := (HS8.out.below hB hl8).cell 1
      have c2 : W.cell? ⟨gs, 2, none⟩ = some (.slice G' (zerosK 1).length k') := (HS8.out.below hB hl8).cell 2
      have c3 : W.cell? ⟨gs, 3, none⟩ = some (S []) := (HS8.out.below hB hl8).cell 3
      go_simp
      unfold FzA6
      exact ⟨_, _, _, _, _, _, _, A1, m1, B1, n1, A2, m2, B2, n2, bp, rfl, hB, hz, (fun _ => rfl), h1, h2, h3, h4, h5, h6, z6, h7, (fun h j hj => also_of (k7 h j hj)), f3_6_0, f3_6_1, f5_6_0, f5_6_1⟩
    | 1, ho =>
      have ho' := Option.some.inj ho
      subst ho'
      refine wpOp_of ho rfl ?_
      refine wp_load_at 30 (.tmp 1) rfl ⟨gx + 1 + 1, 0, none⟩ rfl M1 _ (HR1.out W (HWW.out W hB)) Tryz.underlying30 rfl MI.out ?_
      unfold FzA6
      exact ⟨_, _, _, _, _, _, _, A1, m1, B1, n1, A2, m2, B2, n2, bp, rfl, hB, hz, h0, (fun _ => rfl), h2, h3, h4, h5, h6, z6, h7, (fun h j hj => also_of (k7 h j hj)), f3_6_0, f3_6_1, f5_6_0, f5_6_1⟩
    | 2, ho =>
      have ho' := Option.some.inj ho
      subst ho'
      refine wpOp_of ho rfl ?_
      refine wp_load_at 30 (.tmp 2) rfl ⟨g3, 0, none⟩ rfl M2 _ (HR2.out W (HWW.out W hB)) Tryz.underlying30 rfl MI2.out ?_
      unfold FzA6
      exact ⟨_, _, _, _, _, _, _, A1, m1, B1, n1, A2, m2, B2, n2, bp, rfl, hB, hz, h0, h1, (fun _ => rfl), h3, h4, h5, h6, z6, h7, (fun h j hj => also_of (k7 h j hj)), f3_6_0, f3_6_1, f5_6_0, f5_6_1⟩
    | 3, ho =>
      have ho' := Option.some.inj ho
      subst ho'
      refine wpOp_of ho rfl ?_
      have hn := needs_spec (l := [0, 1, 2]) (by kernel_rfl) hed
      obtain rfl := h0 (hn 0 (by simp))
      obtain rfl := h1 (hn 1 (by simp))
      obtain rfl := h2 (hn 2 (by simp))
      have l7 : Ls 7 = true → False := fun h => by have := k7 h 3 (by simp); rw [hLi] at this; cases this
      have hc := CW.out W hB
      clear hn
      have Hz := Lib.hid hz
      go_simp
      refine hc.mono fun e W2 he => ?_
      obtain ⟨⟨A1n, m1n, B1n, n1n, rfl, q0, q1, r0, r1⟩, hb2⟩ := he
      unfold FzA6
      exact ⟨_, _, _, _, _, _, _, A1n, m1n, B1n, n1n, A2, m2, B2, n2, bp, rfl, hB.trans (hb2.mono Hz.out), Nat.le_trans Hz.out hb2.size, h0, h1, h2, (fun _ => ⟨rfl, q0, q1⟩), h4, (fun h => ⟨(h5 h).1, (Lies.below (h5 h).2.1 hb2).wide hb2.size, (Lies.below (h5 h).2.2 hb2).wide hb2.size⟩), (fun h => ⟨(h6 h).1, (h6 h).2.1, Nat.lt_of_lt_of_le (h6 h).2.2 hb2.size⟩), (fun h h' => (z6 h h').below hb2 (h6 h).2.2), (fun h => (l7 h).elim), (fun h => (l7 h).elim), (fun _ h ad e _ => by have h1 := r0 ad e; have h2 := (h6 h).2.2; omega), (fun _ h ad e _ => by have h1 := r1 ad e; have h2 := (h6 h).2.2; omega), f5_6_0, f5_6_1⟩
    | 4, ho =>
      have ho' := Option.some.inj ho
      subst ho'
      refine wpOp_of ho rfl ?_
      refine wp_load_at 30 (.tmp 2) rfl ⟨g3, 0, none⟩ rfl M2 _ (HR2.out W (HWW.out W hB)) Tryz.underlying30 rfl MI2.out ?_
      unfold FzA6
      exact ⟨_, _, _, _, _, _, _, A1, m1, B1, n1, A2, m2, B2, n2, bp, rfl, hB, hz, h0, h1, h2, h3, (fun _ => rfl), h5, h6, z6, h7, (fun h j hj => also_of (k7 h j hj)), f3_6_0, f3_6_1, f5_6_0, f5_6_1⟩
    | 5, ho =>
      have ho' := Option.some.inj ho
      subst ho'
      refine wpOp_of ho rfl ?_
      have hn := needs_spec (l := [3, 4]) (by kernel_rfl) hed
      obtain ⟨rfl, p3_0, p3_1⟩ := h3 (hn 3 (by simp))
      obtain rfl := h4 (hn 4 (by simp))
      have l7 : Ls 7 = true → False := fun h => by have := k7 h 5 (by simp); rw [hLi] at this; cases this
      have hc := CP.out W A1 B1 m1 n1 hB p3_0 p3_1
      clear hn
      have Hz := Lib.hid hz
      go_simp
      refine hc.mono fun e W2 he => ?_
      obtain ⟨⟨A2n, m2n, B2n, n2n, rfl, q0, q1, r0, r1⟩, hb2⟩ := he
      unfold FzA6
      exact ⟨_, _, _, _, _, _, _, A1, m1, B1, n1, A2n, m2n, B2n, n2n, bp, rfl, hB.trans (hb2.mono Hz.out), Nat.le_trans Hz.out hb2.size, h0, h1, h2, (fun h => ⟨(h3 h).1, (Lies.below (h3 h).2.1 hb2).wide hb2.size, (Lies.below (h3 h).2.2 hb2).wide hb2.size⟩), h4, (fun _ => ⟨rfl, q0, q1⟩), (fun h => ⟨(h6 h).1, (h6 h).2.1, Nat.lt_of_lt_of_le (h6 h).2.2 hb2.size⟩), (fun h h' => (z6 h h').below hb2 (h6 h).2.2), (fun h => (l7 h).elim), (fun h => (l7 h).elim), f3_6_0, f3_6_1, (fun _ h ad e _ => by have h1 := r0 ad e; have h2 := (h6 h).2.2; omega), (fun _ h ad e _ => by have h1 := r1 ad e; have h2 := (h6 h).2.2; omega)⟩
    | 6, ho =>
      have ho' := Option.some.inj ho
      subst ho'
      refine wpOp_of ho rfl ?_
      have l7 : Ls 7 = true → False := fun h => by have := k7 h 6 (by simp); rw [hLi] at this; cases this
      have Hz := Lib.hid hz
      go_simp
      unfold FzA6
      exact ⟨_, _, _, _, _, _, _, A1, m1, B1, n1, A2, m2, B2, n2, W.heap.size, rfl, hB.alloc Hz.out _, by have := Hz.out; simp; omega, h0, h1, h2, (fun h => ⟨(h3 h).1, Lies.block' (h3 h).2.1 _, Lies.block' (h3 h).2.2 _⟩), h4, (fun h => ⟨(h5 h).1, Lies.block' (h5 h).2.1 _, Lies.block' (h5 h).2.2 _⟩), (fun _ => ⟨rfl, Hz.out, by simp⟩), (fun _ _ => Whole.made W _ _), (fun h => (l7 h).elim), (fun h => (l7 h).elim), (fun h _ ad e hne => by have := lies_lt (h3 h).2.1 e hne; omega), (fun h _ ad e hne => by have := lies_lt (h3 h).2.2 e hne; omega), (fun h _ ad e hne => by have := lies_lt (h5 h).2.1 e hne; omega), (fun h _ ad e hne => by have := lies_lt (h5 h).2.2 e hne; omega)⟩
    | 7, ho =>
      have ho' := Option.some.inj ho
      subst ho'
      refine wpOp_of ho rfl ?_
      have hn := needs_spec (l := [3, 5, 6]) (by kernel_rfl) hed
      have HN := Lib.hid hn
      obtain ⟨rfl, hp, hpl⟩ := h6 (hn 6 (by simp))
      obtain ⟨rfl, _, _⟩ := h5 (hn 5 (by simp))
      clear hn
      have Hz := Lib.hid hz
      have hw0 := z6 (HN.out 6 (by simp)) hLi
      have c0 : W.cell? ⟨bp, 0, none⟩ = some (.int .u64 0) := hw0.cell 0
      have y0 := hw0.free 0
      have c1 : W.cell? ⟨bp, 1, none⟩ = some (.slice none 0 0) := hw0.cell 1
      have y1 := hw0.free 1
      have c2 : W.cell? ⟨bp, 2, none⟩ = some (.slice none 0 0) := hw0.cell 2
      have y2 := hw0.free 2
      have c3 : W.cell? ⟨bp, 3, none⟩ = some (S []) := hw0.cell 3
      have y3 := hw0.free 3
      go_simp
      unfold FzA6
      exact ⟨_, _, _, _, _, _, _, A1, m1, B1, n1, A2, m2, B2, n2, bp, rfl, ((((hB.setCell (p := ⟨bp, 0, none⟩) hp _).setCell (p := ⟨bp, 1, none⟩) hp _).setCell (p := ⟨bp, 2, none⟩) hp _).setCell (p := ⟨bp, 3, none⟩) hp _), by simpa [World.setCell] using Hz.out, h0, h1, h2, (fun h => ⟨(h3 h).1, lies_setn4 (h3 h).2.1 (f3_6_0 h (HN.out 6 (by simp))), lies_setn4 (h3 h).2.2 (f3_6_1 h (HN.out 6 (by simp)))⟩), h4, (fun h => ⟨rfl, lies_setn4 (h5 h).2.1 (f5_6_0 h (HN.out 6 (by simp))), lies_setn4 (h5 h).2.2 (f5_6_1 h (HN.out 6 (by simp)))⟩), (fun _ => ⟨rfl, hp, by simpa [World.setCell] using hpl⟩), (fun _ h' => by have h'' : (true : Bool) = false := h'; cases h''), (fun _ => ((((hw0.set 0 _).set 1 _).set 2 _).set 3 _)), (fun _ j hj => also_of (HN.out j hj)), f3_6_0, f3_6_1, f5_6_0, f5_6_1⟩
    | n + 8, ho => simp at ho
  case fin =>
    intro Ls a W hL hJ
    unfold FzA6 at hJ
    obtain ⟨u23, u24, u25, u26, u27, u28, u6, A1, m1, B1, n1, A2, m2, B2, n2, bp, rfl, hB, hz, h0, h1, h2, h3, h4, h5, h6, z6, h7, k7, f3_6_0, f3_6_1, f5_6_0, f5_6_1⟩ := hJ
    have hn : ∀ j, j < 8 → Ls j = true := fun j hj => hL j hj
    obtain rfl := h0 (hn 0 (by omega))
    obtain rfl := h1 (hn 1 (by omega))
    obtain rfl := h2 (hn 2 (by omega))
    obtain ⟨rfl, l3_0, l3_1⟩ := h3 (hn 3 (by omega))
    obtain rfl := h4 (hn 4 (by omega))
    obtain ⟨rfl, l5_0, l5_1⟩ := h5 (hn 5 (by omega))
    obtain ⟨rfl, g6, gl6⟩ := h6 (hn 6 (by omega))
    have b7 := h7 (hn 7 (by omega))
    clear h0 h1 h2 h3 h4 h5 h6 z6 h7 k7 f3_6_0 f3_6_1 f5_6_0 f5_6_1 hn hL
    have hWW := HWW.out W hB
    have HBW := Lib.hid (HB4.out.trans (hWW.mono (by omega)))
    have t0 : W.cell? ⟨bp, 0, none⟩ = some (.int .u64 7) := b7.cell 0
    have t1 : W.cell? ⟨bp, 1, none⟩ = some (.slice A2 fl2.length m2) := b7.cell 1
    have t2 : W.cell? ⟨bp, 2, none⟩ = some (.slice B2 bl2.length n2) := b7.cell 2
    have t3 : W.cell? ⟨bp, 3, none⟩ = some (S []) := b7.cell 3
    have HSW := Lib.hid (HS8.out.below hB hl8)
    have HPa := Lib.hid ((Lies.below HP1b.out hB).wide hz)
    have HPb := Lib.hid ((Lies.below HP2b.out hB).wide hz)
    have CI2 := Lib.hid (imageS_any W A2 B2 m2 n2 7 fl2 bl2 [] l5_0 l5_1 (by rw [HF2.out]; decide) (by rw [HG2.out]; decide))
    rw [show imgK fl2 bl2 [] = (0, [[97], [98]], [[99]], []) from by rw [HF2.out, HG2.out]; rfl] at CI2
    have hgw : gs < W.heap.size := HSW.out.lt
    clear b7 l5_0 l5_1 l3_0 l3_1 hB hWW CW CP HP1b HP2b HS8 HF2 HG2 g6 gl6
    go_wp2_with fail
    refine CI2.out.mono ?_
    rintro e w9 ⟨⟨X, x, X', x', rfl, q1, q2⟩, hb9⟩
    have hs10 := (HSW.out.below hb9 hgw).block (.cells #[.slice X 2 x, .slice X' 1 x', S []] 36)
    have hx10 := Whole.made w9 36 #[.slice X 2 x, .slice X' 1 x', S []]
    have hb10 := (HBW.out.trans (hb9.mono (by have := HBW.out.size; omega))).alloc (by have := HBW.out.size; have := hb9.size; omega) (.cells #[.slice X 2 x, .slice X' 1 x', S []] 36)
    have ha10 := Lies.block' (Lies.wide (Lies.below HPa.out hb9) hb9.size) (.cells #[.slice X 2 x, .slice X' 1 x', S []] 36)
    have hd10 := Lies.block' (Lies.wide (Lies.below HPb.out hb9) hb9.size) (.cells #[.slice X 2 x, .slice X' 1 x', S []] 36)
    have hq1 := Lies.block' q1 (.cells #[.slice X 2 x, .slice X' 1 x', S []] 36)
    have hq2 := Lies.block' q2 (.cells #[.slice X 2 x, .slice X' 1 x', S []] 36)
    clear t0 t1 t2 t3
    go_upto_region 8 with (fail)
    change Code.wp _ _ _ _ (w9.alloc (.cells #[.slice X 2 x, .slice X' 1 x', S []] 36))
    clear CI2 q1 q2 hb9 HSW HPa HPb HBW
    generalize w9.alloc (.cells #[.slice X 2 x, .slice X' 1 x', S []] 36) = w10 at *
    generalize w9.heap.size = gq at *
    have HX10 := Lib.hid hx10
    have HB10 := Lib.hid hb10
    have HQ1 := Lib.hid hq1
    have HQ2 := Lib.hid hq2
    have hlq := hx10.lt
    have u0 : w10.cell? ⟨gs, 0, none⟩ = some (.int .u64 7) := hs10.cell 0
    have u1 : w10.cell? ⟨gs, 1, none⟩ = some (.slice G (zerosK 2).length k) := hs10.cell 1
    have u2 : w10.cell? ⟨gs, 2, none⟩ = some (.slice G' (zerosK 1).length k') := hs10.cell 2
    have u3 : w10.cell? ⟨gs, 3, none⟩ = some (S []) := hs10.cell 3
    have CL := Lib.hid (left_any w10 G G' k k' 7 (zerosK 2) (zerosK 1) [] ha10 hd10 (by decide) (by decide))
    rw [show leftL (zerosK 2) + leftL (zerosK 1) = 3 from rfl] at CL
    clear hx10 hb10 hq1 hq2 ha10 hd10 hs10
    go_wp2_with fail
    refine CL.out.mono ?_
    rintro e w11 ⟨rfl, hb11⟩
    have hX11 := HX10.out.below hb11 hlq
    have x0 : w11.cell? ⟨gq, 0, none⟩ = some (.slice X 2 x) := hX11.cell 0
    have x1 : w11.cell? ⟨gq, 1, none⟩ = some (.slice X' 1 x') := hX11.cell 1
    obtain ⟨ad, rfl, had, e0⟩ := Strs.at' (ls := [[97], [98]]) HQ1.out (k := 0) (by decide)
    obtain ⟨ad2, ee2, _, e1⟩ := Strs.at' (ls := [[97], [98]]) HQ1.out (k := 1) (by decide)
    obtain ⟨bd, rfl, hbd, e2⟩ := Strs.at' (ls := [[99]]) HQ2.out (k := 0) (by decide)
    injection ee2 with ee2
    subst ee2
    have e0' : w11.cell? ad = some (S [97]) := (hb11.cell had).trans e0
    have e1' : w11.cell? ⟨ad.block, ad.off + 1, none⟩ = some (S [98]) := (hb11.cell (p := ⟨ad.block, ad.off + 1, none⟩) had).trans e1
    have e2' : w11.cell? bd = some (S [99]) := (hb11.cell hbd).trans e2
    have HB11 := Lib.hid (HB10.out.trans (hb11.mono (by have := HB10.out.size; rw [HGX.out] at this; omega)))
    clear hb11 hX11 e0 e1 e2 CL
    go_wp2_with fail
    go_ret
    exact ⟨rfl, by rw [HGX.out]; exact HB11.out⟩
end Go.Proofs.YtmmfcjkabpffeaaGreatDoor
