/-
  Walk: hibernacleref02.take.
-/
import Derived.Test.YtecamaceainfpaaDoorRHashA
import Derived.Test.YtecamaceainfpaaDoorTake
import Derived.Test.YtecamaceainfpaaDoorBase
import Derived.Test.YtecamaceainfpaaDoorRowsA
import Derived.Test.YtecamaceainfpaaDoorDeltaA
namespace Go.Proofs.YtecamaceainfpaaDoor
open Go.RowKit

/-- the sixteen numbers, the first k of them laid -/
def vTo (h : List UInt32) (k : Nat) : List UInt32 := (h ++ IV).take k ++ List.replicate (16 - k) 0
theorem vTo_length {h : List UInt32} (hh : h.length = 8) {k : Nat} (hk : k ≤ 16) : (vTo h k).length = 16 := by
  have : IV.length = 8 := rfl
  simp [vTo, hh, this]; omega
theorem vTo_set {h : List UInt32} (hh : h.length = 8) {k : Nat} (hk : k < 16) : (vTo h k).set k ((h ++ IV).getD k 0) = vTo h (k + 1) := by
  have hl : (h ++ IV).length = 16 := by simp [hh, show IV.length = 8 from rfl]
  unfold vTo
  rw [List.set_append, if_neg (by simp [hl]; omega), List.take_succ_eq_append_getElem (by omega), List.append_assoc]
  congr 1
  rw [show 16 - k = (16 - (k + 1)) + 1 by omega, List.replicate_succ, show k - (List.take k (h ++ IV)).length = 0 by simp [hl]; omega, List.set_cons_zero]
  simp [List.getD, hl, hk]
theorem vTo_all {h : List UInt32} (hh : h.length = 8) : vTo h 16 = h ++ IV := by
  unfold vTo; rw [List.take_of_length_le (by simp [hh, show IV.length = 8 from rfl])]; simp
theorem lo_at {h : List UInt32} (hh : h.length = 8) {k : Nat} (hk : k < 8) : (h ++ IV).getD k 0 = h.getD k 0 := by
  simp [List.getD, List.getElem?_append_left (show k < h.length by omega)]
theorem hi_at {h : List UInt32} (hh : h.length = 8) {k : Nat} (hk : 8 ≤ k) : (h ++ IV).getD k 0 = IV.getD (k - 8) 0 := by
  simp [List.getD, List.getElem?_append_right (show h.length ≤ k by omega), hh]

/-- a byte of a text, as the walk takes it -/
theorem run_index_S (s : List UInt8) (k : IntKind) (z : Int) (i : Nat) (hz : z = (i : Int)) (hi : i < s.length) (W : World) : (Instr.index 9 (S s) (.int k z)).run Tryd.prog W = .ok (B8 (s.getD i 0)) W := by
  subst hz
  have hs : (⟨s.toArray⟩ : ByteArray).size = s.length := by simp [ByteArray.size]
  show (Instr.index 9 (.string ⟨s.toArray⟩) (.int k (i : Int))).run Tryd.prog W = _
  rw [run_index_string W 9 ⟨s.toArray⟩ k _ Tryd.underlying9, dif_pos ⟨by omega, by rw [hs]; omega⟩]
  have e : ((i : Int)).toNat = i := by omega
  simp only [e]
  have : (⟨s.toArray⟩ : ByteArray)[i]'(by rw [hs]; exact hi) = s.getD i 0 := by
    simp [ByteArray.getElem_eq_getElem_data, List.getD, hi]
  rw [this]
theorem leadd_eq (a b c d : UInt8) : IntKind.u32.wrap (IntKind.u32.wrap (IntKind.u32.wrap (IntKind.u32.wrap (a.toNat : Int) + IntKind.u32.wrap (IntKind.u32.wrap (b.toNat : Int) * 256)) + IntKind.u32.wrap (IntKind.u32.wrap (c.toNat : Int) * 65536)) + IntKind.u32.wrap (IntKind.u32.wrap (d.toNat : Int) * 16777216)) = ((le32 a b c d).toNat : Int) := by
  have ha := a.toNat_lt; have hb := b.toNat_lt; have hc := c.toNat_lt; have hd := d.toNat_lt
  unfold le32
  rw [UInt32.toNat_ofNat']
  simp only [IntKind.wrap_u32]
  omega

/-- what stays while take runs: its argument's box, its result's box, the eight numbers' box -/
def TK (w : World) (h : List UInt32) (g ge : Nat) (wr : World) : Prop :=
  Whole wr g 96 (h.map U).toArray ∧ Whole wr (g + 1) 96 ((List.replicate 8 (0 : UInt32)).map U).toArray ∧ Whole wr ge 96 (IV.map U).toArray ∧ Below g w wr
theorem TK.put {w : World} {h : List UInt32} {g ge : Nat} {wr : World} (H : TK w h g ge wr) {p : Addr} (h1 : g + 1 < p.block) (h2 : ge ≠ p.block) (u : Value) : TK w h g ge (wr.setCell p u) :=
  ⟨H.1.far (by omega) u, H.2.1.far (by omega) u, H.2.2.1.far h2 u, H.2.2.2.setCell (by omega) u⟩
theorem TK.draw {w : World} {h : List UInt32} {g ge : Nat} {wr : World} (H : TK w h g ge wr) : TK w h g ge wr.drew := ⟨H.1.draw, H.2.1.draw, H.2.2.1.draw, H.2.2.2.drew⟩
theorem TK.other {w : World} {h : List UInt32} {g ge : Nat} {wr w' : World} (H : TK w h g ge wr) {q : Nat} (hf : wr.grownBy w' (some q)) (h1 : g + 1 < q) (h2 : ge ≠ q) : TK w h g ge w' :=
  ⟨H.1.other hf (by simp; omega), H.2.1.other hf (by simp; omega), H.2.2.1.other hf (by simp; omega), below_grown H.2.2.2 hf (by have := H.1.lt; omega) (by omega)⟩
theorem TK.below {w : World} {h : List UInt32} {g ge : Nat} {wr w' : World} (H : TK w h g ge wr) (hb : Below wr.heap.size wr w') : TK w h g ge w' :=
  ⟨H.1.below hb H.1.lt, H.2.1.below hb H.2.1.lt, H.2.2.1.below hb H.2.2.1.lt, H.2.2.2.trans (hb.mono (by have := H.1.lt; omega))⟩
theorem tk_two {w : World} {h : List UInt32} {g ge : Nat} {wr : World} {t : TypeId} {vs ms : List UInt32} (H : TK w h g ge wr) (HV : Whole wr (g + 1 + 1) t (vs.map U).toArray) (HM : Whole wr (g + 1 + 1 + 1) t (ms.map U).toArray) (hge : g + 1 + 1 + 1 < ge) (k : Nat) (x y : UInt32) :
    TK w h g ge ((wr.setCell ⟨g + 1 + 1 + 1, k, none⟩ (U x)).setCell ⟨g + 1 + 1, k, none⟩ (U y)).drew ∧ Whole ((wr.setCell ⟨g + 1 + 1 + 1, k, none⟩ (U x)).setCell ⟨g + 1 + 1, k, none⟩ (U y)).drew (g + 1 + 1) t ((vs.set k y).map U).toArray ∧
      Whole ((wr.setCell ⟨g + 1 + 1 + 1, k, none⟩ (U x)).setCell ⟨g + 1 + 1, k, none⟩ (U y)).drew (g + 1 + 1 + 1) t ((ms.set k x).map U).toArray :=
  ⟨((H.put (p := ⟨g + 1 + 1 + 1, k, none⟩) (by show g + 1 < g + 1 + 1 + 1; omega) (by show ge ≠ g + 1 + 1 + 1; omega) _).put (p := ⟨g + 1 + 1, k, none⟩) (by show g + 1 < g + 1 + 1; omega) (by show ge ≠ g + 1 + 1; omega) _).draw,
    set_U (HV.far (p := ⟨g + 1 + 1 + 1, k, none⟩) (by show g + 1 + 1 ≠ g + 1 + 1 + 1; omega) _) k y, ((put_U HM k x).far (p := ⟨g + 1 + 1, k, none⟩) (by show g + 1 + 1 + 1 ≠ g + 1 + 1; omega) _).draw⟩
theorem not_sub (x : UInt32) : (4294967295 - (x.toNat : Int)) % 4294967296 = ((~~~ x).toNat : Int) := by
  rw [u_not]; have := (~~~ x).toNat_lt; omega
theorem xor_lo (x : UInt32) (n : Nat) : bits .xor .u32 (x.toNat : Int) ((n : Int) % 4294967296) = ((ux x (UInt32.ofNat n)).toNat : Int) := by
  rw [← xor_wrap, IntKind.wrap_u32]
theorem xor_hi (x : UInt32) (n : Nat) (hn : n < 18446744073709551616) : bits .xor .u32 (x.toNat : Int) ((n : Int) / 4294967296) = ((ux x (UInt32.ofNat (n / 4294967296))).toNat : Int) := by
  rw [← xor_wrap_hi, IntKind.wrap_u32]
  congr 1; omega
theorem vstart_eq (h : List UInt32) (n : Nat) : ((h ++ IV).set 12 (ux ((h ++ IV).getD 12 0) (UInt32.ofNat n))).set 13 (ux ((h ++ IV).getD 13 0) (UInt32.ofNat (n / 4294967296))) = vstart h n := by
  unfold vstart
  dsimp only
  congr 2
  simp [List.getD]

/-- the places of mix i of a round -/
def pa (i : Nat) : Nat := if i < 4 then i else i - 4
def pb (i : Nat) : Nat := if i < 4 then i + 4 else 4 + (i - 4 + 1) % 4
def pc (i : Nat) : Nat := if i < 4 then i + 8 else 8 + (i - 4 + 2) % 4
def pd (i : Nat) : Nat := if i < 4 then i + 12 else 12 + (i - 4 + 3) % 4
def roundTo (m : List UInt32) (k : Nat) (v : List UInt32) : Nat → List UInt32
  | 0 => v
  | i + 1 => mixL (roundTo m k v i) (pa i) (pb i) (pc i) (pd i) (m.getD (sg k (2 * i)) 0) (m.getD (sg k (2 * i + 1)) 0)
theorem roundTo_all (m : List UInt32) (k : Nat) (v : List UInt32) : roundTo m k v 8 = round m k v := rfl
theorem roundTo_length (m : List UInt32) (k : Nat) (v : List UInt32) (i : Nat) : (roundTo m k v i).length = v.length := by
  induction i with
  | zero => rfl
  | succ i ih => rw [roundTo, mixL_length, ih]
theorem rows_len : ∀ k < 10, (ROWS.getD k []).length = 16 := by decide
theorem rows_lo : ∀ k < 10, ∀ j < 16, 48 ≤ ((ROWS.getD k []).getD j 0).toNat := by decide +kernel
theorem rows_at : ∀ k < 10, ∀ j < 16, placeN ((ROWS.getD k []).getD j 0) = sg k j := by decide +kernel

theorem ux_assoc (x y z : UInt32) : ux (ux x y) z = ux x (ux y z) := by unfold ux; rw [UInt32.xor_assoc]
/-- the eight numbers, the first k of them done -/
def rhTo (h v : List UInt32) (k : Nat) : List UInt32 := ((List.range 8).map fun i => ux (h.getD i 0) (ux (v.getD i 0) (v.getD (i + 8) 0))).take k ++ h.drop k
theorem rhTo_zero (h v : List UInt32) : rhTo h v 0 = h := by simp [rhTo]
theorem rhTo_all {h : List UInt32} (hh : h.length = 8) (v : List UInt32) : rhTo h v 8 = (List.range 8).map fun i => ux (h.getD i 0) (ux (v.getD i 0) (v.getD (i + 8) 0)) := by
  unfold rhTo; rw [List.take_of_length_le (by simp), List.drop_eq_nil_of_le (by omega), List.append_nil]
theorem rhTo_length {h : List UInt32} (hh : h.length = 8) (v : List UInt32) {k : Nat} (hk : k ≤ 8) : (rhTo h v k).length = 8 := by simp [rhTo, hh]; omega
theorem rhTo_at {h : List UInt32} (_hh : h.length = 8) (v : List UInt32) {k : Nat} (hk : k < 8) : (rhTo h v k).getD k 0 = h.getD k 0 := by
  unfold rhTo
  rw [List.getD_eq_getElem?_getD, List.getElem?_append_right (by simp; omega), List.getElem?_drop]
  simp [show min k 8 = k by omega]
theorem rhTo_set {h : List UInt32} (hh : h.length = 8) (v : List UInt32) {k : Nat} (hk : k < 8) : (rhTo h v k).set k (ux (ux (h.getD k 0) (v.getD k 0)) (v.getD (k + 8) 0)) = rhTo h v (k + 1) := by
  unfold rhTo
  rw [List.set_append, if_neg (by simp; omega), List.take_succ_eq_append_getElem (by simp; omega), List.append_assoc]
  congr 1
  rw [show k - (List.take k ((List.range 8).map fun i => ux (h.getD i 0) (ux (v.getD i 0) (v.getD (i + 8) 0)))).length = 0 by simp; omega, List.drop_eq_getElem_cons (show k < h.length by omega), List.set_cons_zero]
  simp [ux_assoc]
theorem rmix_at (w : World) (v : List UInt32) (a b c d : Nat) (za zb zc zd : Int) (x y : UInt32) (hv : v.length = 16) (ea : za = a) (eb : zb = b) (ec : zc = c) (ed : zd = d)
    (ha : a < 4) (hb : 4 ≤ b) (hb' : b < 8) (hc : 8 ≤ c) (hc' : c < 12) (hd : 12 ≤ d) (hd' : d < 16) :
    Calls Tryd.prog 134 #[.agg (v.map U).toArray, .int .i64 za, .int .i64 zb, .int .i64 zc, .int .i64 zd, U x, U y] w fun e w' => e = .returned (.agg ((mixL v a b c d x y).map U).toArray) ∧ Below w.heap.size w w' := by
  subst ea eb ec ed
  exact rmix_any w v a b c d x y hv ha hb hb' hc hc' hd hd'

set_option maxRecDepth 100000 in
set_option maxHeartbeats 4000000 in
theorem rtake_any (w : World) (h : List UInt32) (wt : List UInt8) (n : Nat) (last : Bool) (hh : h.length = 8) (hw : wt.length = 64) (hn : n < 18446744073709551616) :
    Calls Tryd.prog 114 #[.agg (h.map U).toArray, S wt, .int .u64 (n : Int), .bool last] w fun e w' => e = .returned (.agg ((takeL h wt n last).map U).toArray) ∧ Below w.heap.size w w' := by
  have HH := Lib.hid hh
  have HW := Lib.hid hw
  have hsz : (h.map U).toArray.size = 8 := by simp [hh]
  clear hh
  go_enter Tryd.func114, Tryd.ntmps114
  go_wp2_with fail
  have hH := (((Whole.made w 96 (h.map U).toArray).block (.cells ((List.replicate 8 (0 : UInt32)).map U).toArray 96)).block (.cells ((List.replicate 16 (0 : UInt32)).map U).toArray 145)).block (.cells ((List.replicate 16 (0 : UInt32)).map U).toArray 145)
  have hR := ((Whole.made (w.alloc (.cells (h.map U).toArray 96)) 96 ((List.replicate 8 (0 : UInt32)).map U).toArray).block (.cells ((List.replicate 16 (0 : UInt32)).map U).toArray 145)).block (.cells ((List.replicate 16 (0 : UInt32)).map U).toArray 145)
  have hV := (Whole.made ((w.alloc (.cells (h.map U).toArray 96)).alloc (.cells ((List.replicate 8 (0 : UInt32)).map U).toArray 96)) 145 ((List.replicate 16 (0 : UInt32)).map U).toArray).block (.cells ((List.replicate 16 (0 : UInt32)).map U).toArray 145)
  have hM := Whole.made (((w.alloc (.cells (h.map U).toArray 96)).alloc (.cells ((List.replicate 8 (0 : UInt32)).map U).toArray 96)).alloc (.cells ((List.replicate 16 (0 : UInt32)).map U).toArray 145)) 145 ((List.replicate 16 (0 : UInt32)).map U).toArray
  have hb : Below w.heap.size w ((((w.alloc (.cells (h.map U).toArray 96)).alloc (.cells ((List.replicate 8 (0 : UInt32)).map U).toArray 96)).alloc (.cells ((List.replicate 16 (0 : UInt32)).map U).toArray 145)).alloc (.cells ((List.replicate 16 (0 : UInt32)).map U).toArray 145)) := ((((Below.refl _ _).alloc (Nat.le_refl _) _).alloc (by simp) _).alloc (by simp; omega) _).alloc (by simp; omega) _
  rw [show (w.alloc (.cells (h.map U).toArray 96)).heap.size = w.heap.size + 1 by simp] at hR
  rw [show ((w.alloc (.cells (h.map U).toArray 96)).alloc (.cells ((List.replicate 8 (0 : UInt32)).map U).toArray 96)).heap.size = w.heap.size + 1 + 1 by simp] at hV
  rw [show (((w.alloc (.cells (h.map U).toArray 96)).alloc (.cells ((List.replicate 8 (0 : UInt32)).map U).toArray 96)).alloc (.cells ((List.replicate 16 (0 : UInt32)).map U).toArray 145)).heap.size = w.heap.size + 1 + 1 + 1 by simp] at hM
  change Calls _ _ _ ((((w.alloc (.cells (h.map U).toArray 96)).alloc (.cells ((List.replicate 8 (0 : UInt32)).map U).toArray 96)).alloc (.cells ((List.replicate 16 (0 : UInt32)).map U).toArray 145)).alloc (.cells ((List.replicate 16 (0 : UInt32)).map U).toArray 145)) _
  generalize ((((w.alloc (.cells (h.map U).toArray 96)).alloc (.cells ((List.replicate 8 (0 : UInt32)).map U).toArray 96)).alloc (.cells ((List.replicate 16 (0 : UInt32)).map U).toArray 145)).alloc (.cells ((List.replicate 16 (0 : UInt32)).map U).toArray 145)) = w1 at *
  generalize hgx : w.heap.size = g at *
  have HGX := Lib.hid hgx
  clear hgx hsz
  refine (eight_any w1).mono ?_
  rintro e w2 ⟨rfl, hb2⟩
  have hl1 := hM.lt
  have HH2 := Lib.hid (hH.below hb2 (by omega))
  have HR2 := Lib.hid (hR.below hb2 (by omega))
  have HV2 := Lib.hid (hV.below hb2 (by omega))
  have HM2 := Lib.hid (hM.below hb2 (by omega))
  have HB2 := Lib.hid (hb.trans (hb2.mono (by omega)))
  have hl2 := HM2.out.lt
  clear hH hR hV hM hb hb2 hl1
  have HZ : Hid (Whole (w2.alloc (.cells ((List.replicate 8 (0 : UInt32)).map U).toArray 96)) w2.heap.size 96 ((List.replicate 8 (0 : UInt32)).map U).toArray) := Lib.hid (Whole.made _ _ _)
  go_wp2_with (refine wpList_store_at rfl 96 (.tmp 11) (.tmp 20) rfl rfl w2.heap.size 0 rfl (IV.map U) rfl (by kernel_rfl) ((List.replicate 8 (0 : UInt32)).map U) 96 HZ.out (by decide) (U_one _) ?_; intro w3 N3 F3)
  have hge : g + 1 + 1 + 1 < w2.heap.size := hl2
  have hB3 : Below w2.heap.size w2 w3 := below_grown ((Below.refl _ _).alloc (Nat.le_refl _) _) F3.out (by simp) (Nat.le_refl _)
  have hK : TK w h g w2.heap.size w3 := ⟨HH2.out.below hB3 (by omega), HR2.out.below hB3 (by omega), by have := N3.out; rw [show ((List.replicate 8 (0 : UInt32)).map U).drop (0 + (IV.map U).length) = [] from by kernel_rfl, List.take_zero, List.nil_append, List.append_nil] at this; exact this, HB2.out.trans (hB3.mono (by omega))⟩
  have hV3 : Whole w3 (g + 1 + 1) 145 ((vTo h 0).map U).toArray := by have := HV2.out.below hB3 (by omega); simpa [vTo] using this
  have hM3 : Whole w3 (g + 1 + 1 + 1) 145 ((wordsTo wt 0).map U).toArray := by have := HM2.out.below hB3 (by omega); rw [wordsTo_zero]; exact this
  have HK3 := Lib.hid hK
  have HV3 := Lib.hid hV3
  have HM3 := Lib.hid hM3
  clear hK hV3 hM3 hB3 N3 F3 HZ HH2 HR2 HV2 HM2 HB2 hl2
  generalize w2.heap.size = ge at *
  go_loopw [12] (fun i wr => ∃ k : Nat, k ≤ 16 ∧ i = .int .i64 k ∧ Hid (TK w h g ge wr) ∧ Hid (Whole wr (g + 1 + 1) 145 ((vTo h k).map U).toArray) ∧ Hid (Whole wr (g + 1 + 1 + 1) 145 ((wordsTo wt k).map U).toArray)) (fun i _ => 16 - (intOf i).toNat)
  case atStart => exact ⟨0, by omega, rfl, HK3, HV3, HM3⟩
  case round =>
    obtain ⟨k, hk, rfl, HK, HV, HM⟩ := hrel
    by_cases hlt : k < 16
    · have w0' : IntKind.i64.wrap (4 * (k : Int)) = 4 * (k : Int) := IntWalk.i64_in _ (by omega)
      have w1' : IntKind.i64.wrap (4 * (k : Int) + 1) = 4 * (k : Int) + 1 := IntWalk.i64_in _ (by omega)
      have w2' : IntKind.i64.wrap (4 * (k : Int) + 2) = 4 * (k : Int) + 2 := IntWalk.i64_in _ (by omega)
      have w3' : IntKind.i64.wrap (4 * (k : Int) + 3) = 4 * (k : Int) + 3 := IntWalk.i64_in _ (by omega)
      have x0 := run_index_S wt .i64 (4 * (k : Int)) (4 * k) (by omega) (by omega)
      have x1 := run_index_S wt .i64 (4 * (k : Int) + 1) (4 * k + 1) (by omega) (by omega)
      have x2 := run_index_S wt .i64 (4 * (k : Int) + 2) (4 * k + 2) (by omega) (by omega)
      have x3 := run_index_S wt .i64 (4 * (k : Int) + 3) (4 * k + 3) (by omega) (by omega)
      have hx := words_at wt hlt
      generalize wt.getD (4 * k) 0 = b0 at *
      generalize wt.getD (4 * k + 1) 0 = b1 at *
      generalize wt.getD (4 * k + 2) 0 = b2 at *
      generalize wt.getD (4 * k + 3) 0 = b3 at *
      have HX := Lib.hid hx
      clear hx
      have ik : (k : Int) < 16 := by omega
      have iz : (0 : Int) ≤ (k : Int) := by omega
      have HVn := Lib.hid (vTo_set HH.out hlt)
      have HMn := Lib.hid (wordsTo_set wt hlt _ HX.out)
      have cm := cell_U HM.out (a := k) (by rw [wordsTo_length wt hk]; exact hlt)
      have fm := HM.out.free k
      have cv := cell_U HV.out (a := k) (by rw [vTo_length HH.out hk]; exact hlt)
      have fv := HV.out.free k
      clear hw
      by_cases h8 : k < 8
      · have i8 : (k : Int) < 8 := by omega
        have ch : wr.cell? ⟨g, k, none⟩ = some (U (h.getD k 0)) := cell_U HK.out.1 (by have := HH.out; omega)
        rw [lo_at HH.out h8] at HVn
        go_wp2_with fail
        go_still_tail 31, (by kernel_rfl)
        rw [leadd_eq]
        clear w0' w1' w2' w3' x0 x1 x2 x3
        generalize le32 b0 b1 b2 b3 = x at *
        generalize h.getD k 0 = y at *
        show wpList _ _ _ _ _ wr.drew
        go_wp2_with fail
        go_roundw
        case rel =>
          obtain ⟨t1, t2, t3⟩ := tk_two HK.out HV.out HM.out hge k x y
          rw [HVn.out] at t2
          rw [HMn.out] at t3
          exact ⟨k + 1, by omega, by go_num, Lib.hid t1, Lib.hid t2, Lib.hid t3⟩
        case measure => simp [intOf]; omega
      · have i8 : (8 : Int) ≤ (k : Int) := by omega
        have ch : wr.cell? ⟨ge, k - 8, none⟩ = some (U (IV.getD (k - 8) 0)) := cell_U HK.out.2.2.1 (by show k - 8 < 8; omega)
        rw [hi_at HH.out (by omega)] at HVn
        go_wp2_with fail
        go_still_tail 31, (by kernel_rfl)
        rw [leadd_eq]
        clear w0' w1' w2' w3' x0 x1 x2 x3
        generalize le32 b0 b1 b2 b3 = x at *
        generalize IV.getD (k - 8) 0 = y at *
        show wpList _ _ _ _ _ wr.drew
        go_wp2_with fail
        go_roundw
        case rel =>
          obtain ⟨t1, t2, t3⟩ := tk_two HK.out HV.out HM.out hge k x y
          rw [HVn.out] at t2
          rw [HMn.out] at t3
          exact ⟨k + 1, by omega, by go_num, Lib.hid t1, Lib.hid t2, Lib.hid t3⟩
        case measure => simp [intOf]; omega
    · have hd16 : decide ((k : Int) < 16) = false := by simp; omega
      obtain rfl : k = 16 := by omega
      rw [vTo_all HH.out] at HV
      rw [wordsTo_all] at HM
      have VL : Hid ((h ++ IV).length = 16) := Lib.hid (by simp [HH.out, IV])
      have c12 := cell_U HV.out (a := 12) (by rw [VL.out]; omega)
      have c13 := cell_U HV.out (a := 13) (by rw [VL.out]; omega)
      have f12 := HV.out.free 12
      have f13 := HV.out.free 13
      obtain ⟨x12, HX12⟩ : ∃ z, Hid ((h ++ IV).getD 12 0 = z) := ⟨_, Lib.hid rfl⟩
      obtain ⟨x13, HX13⟩ : ∃ z, Hid ((h ++ IV).getD 13 0 = z) := ⟨_, Lib.hid rfl⟩
      rw [HX12.out] at c12
      rw [HX13.out] at c13
      clear hw
      go_upto_if 83 with (fail)
      rw [xor_lo, xor_hi _ _ hn]
      have hv5 := put_U (put_U HV.out 12 (ux x12 (UInt32.ofNat n))) 13 (ux x13 (UInt32.ofNat (n / 4294967296)))
      rw [← HX12.out, ← HX13.out, vstart_eq] at hv5
      have HV5 : Hid (Whole _ (g + 1 + 1) 145 ((vstart h n).map U).toArray) := Lib.hid hv5
      rw [HX12.out, HX13.out] at HV5
      have HF5 := Lib.hid ((far_U (w := wr) (g := g + 1 + 1) 12 (ux x12 (UInt32.ofNat n))).trans (far_U (w := (wr.setCell ⟨g + 1 + 1, 12, none⟩ (U (ux x12 (UInt32.ofNat n)))).drew) (g := g + 1 + 1) 13 (ux x13 (UInt32.ofNat (n / 4294967296)))))
      have HF5' : Hid (wr.grownBy ((wr.setCell ⟨g + 1 + 1, 12, none⟩ (U (ux x12 (UInt32.ofNat n)))).setCell ⟨g + 1 + 1, 13, none⟩ (U (ux x13 (UInt32.ofNat (n / 4294967296))))) (some (g + 1 + 1))) := Lib.hid ⟨HF5.out.os, HF5.out.tape, HF5.out.output, HF5.out.size, HF5.out.block⟩
      clear hv5 HF5 c12 c13 f12 f13
      generalize (wr.setCell ⟨g + 1 + 1, 12, none⟩ (U (ux x12 (UInt32.ofNat n)))).setCell ⟨g + 1 + 1, 13, none⟩ (U (ux x13 (UInt32.ofNat (n / 4294967296)))) = w5 at *
      clear HX12 HX13 VL HV hd16
      go_cut [] (fun wc => Hid (Whole wc (g + 1 + 1) 145 ((vlast (vstart h n) last).map U).toArray) ∧ Hid (wr.grownBy wc (some (g + 1 + 1))))
      case first =>
        cases last with
        | false =>
          go_wp2
          go_meet
          exact ⟨HV5, HF5'⟩
        | true =>
          have c14 := cell_U HV5.out (a := 14) (by rw [vstart_length HH.out]; omega)
          have f14 := HV5.out.free 14
          generalize hx14 : (vstart h n).getD 14 0 = x14 at *
          have HX14 := Lib.hid hx14
          clear hx14
          go_wp2
          go_meet
          rw [not_sub]
          refine ⟨Lib.hid ?_, Lib.hid (HF5'.out.trans ⟨rfl, rfl, rfl, by simp [World.setCell], fun i _ hne => Below.heap_setCell w5 ⟨g + 1 + 1, 14, none⟩ _ i (fun e => hne (by rw [e]))⟩)⟩
          have := put_U HV5.out 14 (~~~ x14)
          unfold vlast
          rw [if_pos rfl, HX14.out]
          exact this
      case rest =>
        obtain ⟨HV6, HF6⟩ := hcut
        have HK6 := Lib.hid (HK.out.other HF6.out (by omega) (by omega))
        have HM6 := Lib.hid (HM.out.other HF6.out (by simp))
        have VL6 : Hid ((vlast (vstart h n) last).length = 16) := Lib.hid (by rw [vlast_length, vstart_length HH.out])
        obtain ⟨v0, HV0⟩ : ∃ z, Hid (vlast (vstart h n) last = z) := ⟨_, Lib.hid rfl⟩
        rw [HV0.out] at HV6 VL6
        clear HF6 HV5 HF5' HK HM w5 wr
        go_wp2_with fail
        go_loopw [13] (fun i wr => ∃ k : Nat, k ≤ 10 ∧ i = .int .i64 k ∧ Hid (TK w h g ge wr) ∧ Hid (Whole wr (g + 1 + 1) 145 ((rounds (words wt) v0 k).map U).toArray) ∧ Hid (Whole wr (g + 1 + 1 + 1) 145 ((words wt).map U).toArray)) (fun i _ => 10 - (intOf i).toNat)
        case atStart => exact ⟨0, by omega, rfl, HK6, HV6, HM6⟩
        case round =>
          obtain ⟨k, hk, rfl, HK, HV, HM⟩ := hrel
          clear HK6 HV6 HM6
          by_cases hlt : k < 10
          · have VLr : Hid ((rounds (words wt) v0 k).length = 16) := Lib.hid (by rw [rounds_length]; exact VL6.out)
            obtain ⟨vk, HVK⟩ : ∃ z, Hid (rounds (words wt) v0 k = z) := ⟨_, Lib.hid rfl⟩
            rw [HVK.out] at HV VLr
            go_wp2_with fail
            refine (rows_any wr).mono ?_
            rintro e w7 ⟨rfl, hw7⟩
            have hr7 : Whole w7 wr.heap.size 9 (ROWS.map S).toArray := by rw [hw7]; exact Whole.made _ _ _
            have hb7 : Below wr.heap.size wr w7 := by rw [hw7]; exact (Below.refl _ _).alloc (Nat.le_refl _) _
            have HK7 := Lib.hid (HK.out.below hb7)
            have HV7 := Lib.hid (HV.out.below hb7 HV.out.lt)
            have HM7 := Lib.hid (HM.out.below hb7 HM.out.lt)
            have ik : (k : Int) < 10 := by omega
            have cr : w7.cell? ⟨wr.heap.size, k, none⟩ = some (S (ROWS.getD k [])) := by
              rw [hr7.cell]
              have : k < ROWS.length := hlt
              simp [this]
            have RL : Hid ((ROWS.getD k []).length = 16) := Lib.hid (rows_len k hlt)
            have RLO : Hid (∀ j < 16, 48 ≤ ((ROWS.getD k []).getD j 0).toNat) := Lib.hid (rows_lo k hlt)
            have RAT : Hid (∀ j < 16, placeN ((ROWS.getD k []).getD j 0) = sg k j) := Lib.hid (rows_at k hlt)
            clear hr7 hb7 hw7 HK HV HM
            generalize ROWS.getD k [] = rk at *
            generalize wr.heap.size = gr at *
            clear wr
            go_wp2_with fail
            clear cr
            go_loopw [15] (fun i wr => ∃ j : Nat, j ≤ 8 ∧ i = .int .i64 j ∧ Hid (TK w h g ge wr) ∧ Hid (Whole wr (g + 1 + 1) 145 ((roundTo (words wt) k vk j).map U).toArray) ∧ Hid (Whole wr (g + 1 + 1 + 1) 145 ((words wt).map U).toArray)) (fun i _ => 8 - (intOf i).toNat)
            case atStart => exact ⟨0, by omega, rfl, HK7, HV7, HM7⟩
            case round =>
              obtain ⟨j, hj, rfl, HK, HV, HM⟩ := hrel
              clear HK7 HV7 HM7
              by_cases hjt : j < 8
              · have w0' : IntKind.i64.wrap (2 * (j : Int)) = 2 * (j : Int) := IntWalk.i64_in _ (by omega)
                have w1' : IntKind.i64.wrap (2 * (j : Int) + 1) = 2 * (j : Int) + 1 := IntWalk.i64_in _ (by omega)
                have x0 := run_index_S rk .i64 (2 * (j : Int)) (2 * j) (by omega) (by have := RL.out; omega)
                have x1 := run_index_S rk .i64 (2 * (j : Int) + 1) (2 * j + 1) (by omega) (by have := RL.out; omega)
                have l0 := RLO.out (2 * j) (by omega)
                have l1 := RLO.out (2 * j + 1) (by omega)
                have P0 := Lib.hid (RAT.out (2 * j) (by omega))
                have P1 := Lib.hid (RAT.out (2 * j + 1) (by omega))
                generalize rk.getD (2 * j) 0 = b0 at *
                generalize rk.getD (2 * j + 1) 0 = b1 at *
                have cm0 : wr.cell? ⟨g + 1 + 1 + 1, placeN b0, none⟩ = some (U ((words wt).getD (placeN b0) 0)) := cell_U HM.out (by rw [words_length, P0.out]; exact sg_lt _ _)
                have cm1 : wr.cell? ⟨g + 1 + 1 + 1, placeN b1, none⟩ = some (U ((words wt).getD (placeN b1) 0)) := cell_U HM.out (by rw [words_length, P1.out]; exact sg_lt _ _)
                have p0 : (placeN b0 : Int) < 16 := by rw [P0.out]; have := sg_lt k (2 * j); omega
                have p1 : (placeN b1 : Int) < 16 := by rw [P1.out]; have := sg_lt k (2 * j + 1); omega
                have HRT : Hid (roundTo (words wt) k vk (j + 1) = mixL (roundTo (words wt) k vk j) (pa j) (pb j) (pc j) (pd j) ((words wt).getD (placeN b0) 0) ((words wt).getD (placeN b1) 0)) := Lib.hid (by rw [P0.out, P1.out]; rfl)
                have VLj : Hid ((roundTo (words wt) k vk j).length = 16) := Lib.hid (by rw [roundTo_length]; exact VLr.out)
                generalize (words wt).getD (placeN b0) 0 = x at *
                generalize (words wt).getD (placeN b1) 0 = y at *
                obtain ⟨vj, HVJ⟩ : ∃ z, Hid (roundTo (words wt) k vk j = z) := ⟨_, Lib.hid rfl⟩
                rw [HVJ.out] at HV VLj HRT
                clear HVJ
                go_wp2_with fail
                go_quiet ((go_at_call 133; exact Calls.quiet_of_same (place_any _ (by assumption) _)))
                have HKq : Hid (TK w h g ge (wr.drewN nq)) := Lib.hid ⟨HK.out.1.draws nq, HK.out.2.1.draws nq, HK.out.2.2.1.draws nq, Below.draws HK.out.2.2.2 nq⟩
                have HVq := Lib.hid (HV.out.draws nq)
                have HMq := Lib.hid (HM.out.draws nq)
                clear w0' w1' x0 x1 l0 l1 P0 P1 cm0 cm1 p0 p1 HK HV HM
                generalize wr.drewN nq = wq at *
                clear wr
                have HI : Hid ((Tryd.prog.info? 145).map (·.size) = some (vj.map U).length) := Lib.hid (by rw [List.length_map, VLj.out]; kernel_rfl)
                have HC : Hid (∀ i u, (vj.map U)[i]? = some u → wq.cell? ((⟨g + 1 + 1, 0, none⟩ : Addr).add i) = some u) := Lib.hid (fun i u hu => by
                  rw [show (⟨g + 1 + 1, 0, none⟩ : Addr).add i = ⟨g + 1 + 1, i, none⟩ by unfold Addr.add; split <;> simp_all]
                  rw [HVq.out.cell, List.getElem?_toArray]; exact hu)
                by_cases h4 : j < 4
                · have e4 : decide ((j : Int) < 4) = true := by simp; omega
                  have ea : pa j = j := if_pos h4
                  have eb : pb j = (j + 4) := if_pos h4
                  have ec : pc j = (j + 8) := if_pos h4
                  have ed : pd j = (j + 12) := if_pos h4
                  rw [ea, eb, ec, ed] at HRT
                  clear ea eb ec ed
                  go_wp2_with (refine wpList_load_at rfl 145 (.tmp 9) rfl ⟨g + 1 + 1, 0, none⟩ rfl (vj.map U) _ HC.out Tryd.underlying145 rfl HI.out ?_)
                  refine (rmix_at wq vj j (j + 4) (j + 8) (j + 12) _ _ _ _ x y VLj.out (by omega) (by omega) (by omega) (by omega) (by omega) (by omega) (by omega) (by omega) (by omega) (by omega) (by omega)).mono ?_
                  rintro e w8 ⟨rfl, hb8⟩
                  rw [← HRT.out]
                  have HK8 := Lib.hid (HKq.out.below hb8)
                  have HV8 := Lib.hid (HVq.out.below hb8 HVq.out.lt)
                  have HM8 := Lib.hid (HMq.out.below hb8 HMq.out.lt)
                  have VL8 : Hid ((roundTo (words wt) k vk (j + 1)).length = 16) := Lib.hid (by rw [roundTo_length]; exact VLr.out)
                  clear hb8 HKq HVq HMq HRT HI HC e4
                  obtain ⟨vn, HVN⟩ : ∃ z, Hid (roundTo (words wt) k vk (j + 1) = z) := ⟨_, Lib.hid rfl⟩
                  rw [HVN.out] at VL8
                  rw [HVN.out]
                  have HI : Hid ((Tryd.prog.info? 145).map (·.size) = some (vn.map U).length) := Lib.hid (by rw [List.length_map, VL8.out]; kernel_rfl)
                  have HF : Hid (0 + (vn.map U).length ≤ (vj.map U).length) := Lib.hid (by rw [List.length_map, List.length_map, VL8.out, VLj.out]; decide)
                  go_wp2_with (refine wpList_store_at rfl 145 (.tmp 9) (.tmp 127) rfl rfl (g + 1 + 1) 0 rfl (vn.map U) rfl HI.out (vj.map U) 145 HV8.out HF.out (U_one _) ?_; intro w9 H9 F9)
                  have h9 : Whole w9 (g + 1 + 1) 145 (vn.map U).toArray := by
                    have := H9.out
                    rw [List.length_map, VL8.out, List.drop_eq_nil_of_le (by rw [List.length_map, VLj.out]; omega)] at this
                    simpa using this
                  have HV9 := Lib.hid h9
                  have HK9 := Lib.hid (HK8.out.other F9.out (by omega) (by omega))
                  have HM9 := Lib.hid (HM8.out.other F9.out (by simp))
                  clear h9 H9 F9
                  go_roundw
                  case rel =>
                    have R : ∃ j' : Nat, j' ≤ 8 ∧ Value.int .i64 ((j : Int) + 1) = .int .i64 j' ∧ Hid (TK w h g ge w9) ∧ Hid (Whole w9 (g + 1 + 1) 145 ((roundTo (words wt) k vk j').map U).toArray) ∧ Hid (Whole w9 (g + 1 + 1 + 1) 145 ((words wt).map U).toArray) := ⟨j + 1, by omega, by go_num, HK9, by rw [HVN.out]; exact HV9, HM9⟩
                    first | exact R | ((repeat apply Exists.intro); exact ⟨R, rfl⟩)
                  case measure => simp [intOf]; omega
                · have e4 : decide ((j : Int) < 4) = false := by simp; omega
                  have ea : pa j = (j - 4) := if_neg h4
                  have eb : pb j = (4 + (j - 4 + 1) % 4) := if_neg h4
                  have ec : pc j = (8 + (j - 4 + 2) % 4) := if_neg h4
                  have ed : pd j = (12 + (j - 4 + 3) % 4) := if_neg h4
                  rw [ea, eb, ec, ed] at HRT
                  clear ea eb ec ed
                  go_wp2_with (refine wpList_load_at rfl 145 (.tmp 9) rfl ⟨g + 1 + 1, 0, none⟩ rfl (vj.map U) _ HC.out Tryd.underlying145 rfl HI.out ?_)
                  refine (rmix_at wq vj (j - 4) (4 + (j - 4 + 1) % 4) (8 + (j - 4 + 2) % 4) (12 + (j - 4 + 3) % 4) _ _ _ _ x y VLj.out (by omega) (by omega) (by omega) (by omega) (by omega) (by omega) (by omega) (by omega) (by omega) (by omega) (by omega)).mono ?_
                  rintro e w8 ⟨rfl, hb8⟩
                  rw [← HRT.out]
                  have HK8 := Lib.hid (HKq.out.below hb8)
                  have HV8 := Lib.hid (HVq.out.below hb8 HVq.out.lt)
                  have HM8 := Lib.hid (HMq.out.below hb8 HMq.out.lt)
                  have VL8 : Hid ((roundTo (words wt) k vk (j + 1)).length = 16) := Lib.hid (by rw [roundTo_length]; exact VLr.out)
                  clear hb8 HKq HVq HMq HRT HI HC e4
                  obtain ⟨vn, HVN⟩ : ∃ z, Hid (roundTo (words wt) k vk (j + 1) = z) := ⟨_, Lib.hid rfl⟩
                  rw [HVN.out] at VL8
                  rw [HVN.out]
                  have HI : Hid ((Tryd.prog.info? 145).map (·.size) = some (vn.map U).length) := Lib.hid (by rw [List.length_map, VL8.out]; kernel_rfl)
                  have HF : Hid (0 + (vn.map U).length ≤ (vj.map U).length) := Lib.hid (by rw [List.length_map, List.length_map, VL8.out, VLj.out]; decide)
                  go_wp2_with (refine wpList_store_at rfl 145 (.tmp 9) (.tmp 146) rfl rfl (g + 1 + 1) 0 rfl (vn.map U) rfl HI.out (vj.map U) 145 HV8.out HF.out (U_one _) ?_; intro w9 H9 F9)
                  have h9 : Whole w9 (g + 1 + 1) 145 (vn.map U).toArray := by
                    have := H9.out
                    rw [List.length_map, VL8.out, List.drop_eq_nil_of_le (by rw [List.length_map, VLj.out]; omega)] at this
                    simpa using this
                  have HV9 := Lib.hid h9
                  have HK9 := Lib.hid (HK8.out.other F9.out (by omega) (by omega))
                  have HM9 := Lib.hid (HM8.out.other F9.out (by simp))
                  clear h9 H9 F9
                  go_roundw
                  case rel =>
                    have R : ∃ j' : Nat, j' ≤ 8 ∧ Value.int .i64 ((j : Int) + 1) = .int .i64 j' ∧ Hid (TK w h g ge w9) ∧ Hid (Whole w9 (g + 1 + 1) 145 ((roundTo (words wt) k vk j').map U).toArray) ∧ Hid (Whole w9 (g + 1 + 1 + 1) 145 ((words wt).map U).toArray) := ⟨j + 1, by omega, by go_num, HK9, by rw [HVN.out]; exact HV9, HM9⟩
                    first | exact R | ((repeat apply Exists.intro); exact ⟨R, rfl⟩)
                  case measure => simp [intOf]; omega
              · have e8 : decide ((j : Int) < 8) = false := by simp; omega
                obtain rfl : j = 8 := by omega
                rw [roundTo_all] at HV
                go_wp2_with fail
                go_roundw
                case rel =>
                  have R : ∃ k' : Nat, k' ≤ 10 ∧ Value.int .i64 ((k : Int) + 1) = .int .i64 k' ∧ Hid (TK w h g ge wr) ∧ Hid (Whole wr (g + 1 + 1) 145 ((rounds (words wt) v0 k').map U).toArray) ∧ Hid (Whole wr (g + 1 + 1 + 1) 145 ((words wt).map U).toArray) := ⟨k + 1, by omega, by go_num, HK, by rw [rounds, HVK.out]; exact HV, HM⟩
                  first | exact R | ((repeat apply Exists.intro); exact ⟨R, rfl⟩)
                case measure => simp [intOf]; omega
          · have e10 : decide ((k : Int) < 10) = false := by simp; omega
            obtain rfl : k = 10 := by omega
            have VLr : Hid ((rounds (words wt) v0 10).length = 16) := Lib.hid (by rw [rounds_length]; exact VL6.out)
            obtain ⟨vv, HVV⟩ : ∃ z, Hid (rounds (words wt) v0 10 = z) := ⟨_, Lib.hid rfl⟩
            rw [HVV.out] at HV VLr
            have HHH : Hid (Whole wr g 96 (h.map U).toArray) := Lib.hid HK.out.1
            have HRR : Hid (Whole wr (g + 1) 96 ((List.replicate 8 (0 : UInt32)).map U).toArray) := Lib.hid HK.out.2.1
            have HBB : Hid (Below g w wr) := Lib.hid HK.out.2.2.2
            clear HK HM
            go_wp2_with fail
            obtain ⟨wz, HWZ⟩ : ∃ z, Hid (wr = z) := ⟨_, Lib.hid rfl⟩
            rw [HWZ.out]
            rw [HWZ.out] at HHH HRR HBB HV
            clear HWZ wr
            go_loopw [19] (fun i wr => ∃ k : Nat, k ≤ 8 ∧ i = .int .i64 k ∧ Hid (Whole wr g 96 ((rhTo h vv k).map U).toArray) ∧ Hid (wz.grownBy wr (some g))) (fun i _ => 8 - (intOf i).toNat)
            case atStart => exact ⟨0, by omega, rfl, by rw [rhTo_zero]; exact HHH, Lib.hid (World.grownBy.refl _ _)⟩
            case round =>
              obtain ⟨k, hk, rfl, HHr, HFr⟩ := hrel
              by_cases hkt : k < 8
              · have HVr := Lib.hid (HV.out.other HFr.out (by simp; omega))
                have ch := cell_U HHr.out (a := k) (by rw [rhTo_length HH.out vv hk]; exact hkt)
                rw [rhTo_at HH.out vv hkt] at ch
                have fh := HHr.out.free k
                have c0 := cell_U HVr.out (a := k) (by rw [VLr.out]; omega)
                have c1 := cell_U HVr.out (a := k + 8) (by rw [VLr.out]; omega)
                have HS := Lib.hid (rhTo_set HH.out vv hkt)
                generalize h.getD k 0 = x at *
                generalize vv.getD k 0 = y at *
                generalize vv.getD (k + 8) 0 = z at *
                have w8 : IntKind.i64.wrap ((k : Int) + 8) = (k : Int) + 8 := IntWalk.i64_in _ (by omega)
                have i0 : (0 : Int) ≤ (k : Int) := by omega
                have i8 : (k : Int) < 8 := by omega
                have i16 : (k : Int) < 16 := by omega
                have j0 : (0 : Int) ≤ (k : Int) + 8 := by omega
                have j16 : (k : Int) + 8 < 16 := by omega
                have jn : ((k : Int) + 8).toNat = k + 8 := by omega
                go_wp2_with fail
                go_still_tail 14, (by kernel_rfl)
                rw [u_xor, u_xor]
                show wpList _ _ _ _ _ wr.drew
                clear w8 jn
                go_wp2_with fail
                go_roundw
                case rel =>
                  have R : ∃ k' : Nat, k' ≤ 8 ∧ Value.int .i64 ((k : Int) + 1) = .int .i64 k' ∧ Hid (Whole (wr.setCell ⟨g, k, none⟩ (U (ux (ux x y) z))).drew g 96 ((rhTo h vv k').map U).toArray) ∧ Hid (wz.grownBy (wr.setCell ⟨g, k, none⟩ (U (ux (ux x y) z))).drew (some g)) := ⟨k + 1, by omega, by go_num, Lib.hid (by rw [← HS.out]; exact set_U HHr.out k _), Lib.hid (HFr.out.trans (far_U k _))⟩
                  first | exact R | ((repeat apply Exists.intro); exact ⟨R, rfl⟩)
                case measure => simp [intOf]; omega
              · have e8 : decide ((k : Int) < 8) = false := by simp; omega
                obtain rfl : k = 8 := by omega
                have HTL : Hid (rhTo h vv 8 = takeL h wt n last) := Lib.hid (by rw [rhTo_all HH.out, ← HVV.out, ← HV0.out]; rfl)
                have HRr := Lib.hid (HRR.out.other HFr.out (by simp))
                have HBr := Lib.hid (below_grown HBB.out HFr.out (by have := HHH.out.lt; omega) (Nat.le_refl _))
                have TL : Hid ((rhTo h vv 8).length = 8) := Lib.hid (rhTo_length HH.out vv (Nat.le_refl _))
                obtain ⟨th, HTH⟩ : ∃ z, Hid (rhTo h vv 8 = z) := ⟨_, Lib.hid rfl⟩
                rw [HTH.out] at HTL HHr TL
                clear HTH
                have HI : Hid ((Tryd.prog.info? 96).map (·.size) = some (th.map U).length) := Lib.hid (by rw [List.length_map, TL.out]; kernel_rfl)
                have HI' : Hid ((Tryd.prog.info? 96).map (·.size) = some (th.map U).toArray.size) := Lib.hid (by rw [List.size_toArray]; exact HI.out)
                have HF : Hid (0 + (th.map U).length ≤ ((List.replicate 8 (0 : UInt32)).map U).length) := Lib.hid (by rw [List.length_map, List.length_map, TL.out]; decide)
                have HC : Hid (∀ i u, (th.map U)[i]? = some u → wr.cell? ((⟨g, 0, none⟩ : Addr).add i) = some u) := Lib.hid (fun i u hu => by
                  rw [show (⟨g, 0, none⟩ : Addr).add i = ⟨g, i, none⟩ by unfold Addr.add; split <;> simp_all]
                  rw [HHr.out.cell, List.getElem?_toArray]; exact hu)
                go_wp2_with (first
                  | (refine wpList_load_at rfl 96 (.tmp 4) rfl ⟨g, 0, none⟩ rfl (th.map U) _ HC.out Tryd.underlying96 rfl HI.out ?_)
                  | (refine wpList_store_at rfl 96 (.tmp 8) (.tmp 165) rfl rfl (g + 1) 0 rfl (th.map U) rfl HI.out ((List.replicate 8 (0 : UInt32)).map U) 96 HRr.out HF.out (U_one _) ?_; intro w9 H9 F9))
                have h9 : Whole w9 (g + 1) 96 (th.map U).toArray := by
                  have := H9.out
                  rw [List.length_map, TL.out] at this
                  simpa using this
                refine bodyPost_ret (v := .agg (th.map U).toArray) (results_cell_row rfl _ _ (g + 1) 96 _ (0, 0) _ rfl h9 Tryd.underlying96 rfl HI'.out) rfl ⟨by rw [HTL.out], ?_⟩
                rw [HGX.out]
                exact below_grown HBr.out F9.out (by have := HHr.out.lt; omega) (by omega)
end Go.Proofs.YtecamaceainfpaaDoor
