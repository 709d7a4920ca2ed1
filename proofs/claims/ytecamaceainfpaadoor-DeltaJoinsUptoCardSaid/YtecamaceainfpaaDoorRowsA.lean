/-
  Plain: a row of texts as bytes. No program in sight.
-/
import Derived.WalkKit
import Derived.Test.YtecamaceainfpaaDoorBase
import Derived.Test.YtecamaceainfpaaDoorProg
import Derived.Shelf.Strings.Builder1
import Derived.Test.YtecamaceainfpaaDoorShelfB
import Derived.Test.YtecamaceainfpaaDoorHashB
import Derived.Deep.RegionHeld3
namespace Go.Proofs.YtecamaceainfpaaDoor
open Go.RowKit

/-- a length as bytes: seven bits each, the lowest ones first -/
def lenB (n : Nat) : List UInt8 := if n < 128 then [UInt8.ofNat n] else UInt8.ofNat (n % 128 + 128) :: lenB (n / 128)
theorem lenB_small {n : Nat} (h : n < 128) : lenB n = [UInt8.ofNat n] := by rw [lenB, if_pos h]
theorem lenB_big {n : Nat} (h : ¬ n < 128) : lenB n = UInt8.ofNat (n % 128 + 128) :: lenB (n / 128) := by rw [lenB, if_neg h]
theorem lenB_le (n : Nat) : ∀ b, n < 128 ^ (b + 1) → (lenB n).length ≤ b + 1 := by
  intro b
  induction b generalizing n with
  | zero => intro h; rw [lenB_small (by simpa using h)]; simp
  | succ b ih =>
    intro h
    by_cases hn : n < 128
    · rw [lenB_small hn]; simp
    · rw [lenB_big hn, List.length_cons]
      have := ih (n / 128) (by rw [Nat.div_lt_iff_lt_mul (by omega)]; rw [Nat.pow_succ] at h; exact h)
      omega
/-- a row of texts as bytes -/
def rowB (ls : List (List UInt8)) : List UInt8 := ls.flatMap fun l => lenB l.length ++ l
theorem rowB_nil : rowB [] = [] := rfl
theorem rowB_cons (l : List UInt8) (ls : List (List UInt8)) : rowB (l :: ls) = lenB l.length ++ l ++ rowB ls := by simp [rowB]
theorem rowB_append (a b : List (List UInt8)) : rowB (a ++ b) = rowB a ++ rowB b := by simp [rowB]
theorem rowB_snoc (ls : List (List UInt8)) (k : Nat) (h : k < ls.length) : rowB (ls.take (k + 1)) = rowB (ls.take k) ++ lenB (ls.getD k []).length ++ ls.getD k [] := by
  rw [List.take_succ_eq_append_getElem h, rowB_append]; simp [rowB, h]

/-- how many bytes, about, texts have -/
def sizeOf (ls : List (List UInt8)) : Nat := (ls.map fun l => 4 + l.length).sum
theorem sizeOf_snoc (ls : List (List UInt8)) (k : Nat) (h : k < ls.length) : sizeOf (ls.take (k + 1)) = sizeOf (ls.take k) + (4 + (ls.getD k []).length) := by
  unfold sizeOf; rw [List.take_succ_eq_append_getElem h, List.map_append, List.sum_append]; simp [h]
theorem sizeOf_take_le (ls : List (List UInt8)) (k : Nat) : sizeOf (ls.take k) ≤ sizeOf ls := by
  conv => rhs; rw [← List.take_append_drop k ls]
  simp only [sizeOf, List.map_append, List.sum_append]; omega
theorem getD_le (ls : List (List UInt8)) (k : Nat) (h : k < ls.length) : 4 + (ls.getD k []).length ≤ sizeOf ls := by
  have := sizeOf_snoc ls k h; have := sizeOf_take_le ls (k + 1); omega
theorem length_le_sizeOf (ls : List (List UInt8)) : 4 * ls.length ≤ sizeOf ls := by
  induction ls with
  | nil => simp [sizeOf]
  | cons l ls ih => simp only [sizeOf, List.map_cons, List.sum_cons, List.length_cons] at *; omega
/-- a row has at most twice the bytes of its texts' size -/
theorem rowB_le : ∀ ls : List (List UInt8), sizeOf ls ≤ 34359738368 → (rowB ls).length ≤ 2 * sizeOf ls
  | [], _ => by simp [rowB]
  | l :: ls, h => by
    have hs : sizeOf (l :: ls) = 4 + l.length + sizeOf ls := by simp [sizeOf]
    have ih := rowB_le ls (by omega)
    have hl : (lenB l.length).length ≤ 6 := lenB_le l.length 5 (by omega)
    rw [rowB_cons, List.length_append, List.length_append]
    omega
theorem flatten_le_sizeOf : ∀ ls : List (List UInt8), ls.flatten.length ≤ sizeOf ls
  | [] => by simp
  | l :: ls => by
    have := flatten_le_sizeOf ls
    have hs : sizeOf (l :: ls) = 4 + l.length + sizeOf ls := by simp [sizeOf]
    rw [List.flatten_cons, List.length_append]; omega

theorem ofInt64 (a : Nat) (ha : a < 9223372036854775808) : (BitVec.ofInt 64 (a : Int)).toNat = a := by
  rw [BitVec.ofInt_natCast, BitVec.toNat_ofNat]; exact Nat.mod_eq_of_lt (by omega)
/-- the lowest seven bits of an int that is not below 0 -/
theorem and127 (m : Nat) (hm : m < 9223372036854775808) : bits .and .i64 (m : Int) 127 = ((m % 128 : Nat) : Int) := by
  show IntKind.i64.wrap ((BitVec.ofInt 64 (m : Int) &&& BitVec.ofInt 64 ((127 : Nat) : Int)).toNat : Int) = _
  rw [BitVec.toNat_and, ofInt64 m hm, ofInt64 127 (by omega), IntKind.wrap_i64]
  have e : m &&& 127 = m % 128 := by
    have := Nat.and_two_pow_sub_one_eq_mod m 7
    simpa using this
  rw [e]; omega
/-- a byte of a length that goes on -/
theorem or128 (m : Nat) : bits .or .u8 (IntKind.u8.wrap ((m % 128 : Nat) : Int)) 128 = ((UInt8.ofNat (m % 128 + 128)).toNat : Int) := by
  have h : m % 128 < 128 := Nat.mod_lt _ (by omega)
  rw [IntKind.wrap_u8, show ((m % 128 : Nat) : Int) % 256 = ((m % 128 : Nat) : Int) by omega]
  have h2 := u8_or_nat (m % 128) 128 (by omega) (by omega)
  have e : (m % 128) ||| 128 = m % 128 + 128 := by
    have := Nat.two_pow_add_eq_or_of_lt (by omega : m % 128 < 2 ^ 7) 1
    rw [Nat.or_comm]; simpa [Nat.add_comm] using this.symm
  rw [e] at h2
  rw [show ((128 : Int)) = ((128 : Nat) : Int) from rfl, h2, UInt8.toNat_ofNat']
  congr 1; omega
theorem byte_small {m : Nat} (_h : m < 128) : IntKind.u8.wrap (m : Int) = ((UInt8.ofNat m).toNat : Int) := by
  rw [IntKind.wrap_u8, UInt8.toNat_ofNat']; omega
end Go.Proofs.YtecamaceainfpaaDoor
/-
  Walks: hibernaclelaw35.size, great.
-/
namespace Go.Proofs.YtecamaceainfpaaDoor
open Go.RowKit

set_option maxHeartbeats 400000 in
theorem size_any (w : World) (B : Nat) (A : Option Addr) (ls : List (List UInt8)) (c : Nat) (hl : Strs w B A ls) (hs : sizeOf ls ≤ 1099511627776) (hn : ls.length ≤ 1099511627776) :
    Calls Tryd.prog 38 #[.slice A ls.length c] w fun e w' => e = .returned (.int .i64 (sizeOf ls)) ∧ w = w' := by
  go_enter Tryd.func38, Tryd.ntmps38
  go_wp2
  go_loop [3, 8] (fun n i => ∃ k : Nat, k ≤ ls.length ∧ i = .int .i64 k ∧ n = .int .i64 (sizeOf (ls.take k))) (fun _ i => ls.length - (intOf i).toNat)
  case atStart => exact ⟨0, Nat.zero_le _, rfl, rfl⟩
  case round =>
    obtain ⟨k, hk, rfl, rfl⟩ := hrel
    by_cases hlt : k < ls.length
    · obtain ⟨ad, rfl, _, hc⟩ := hl.at' hlt
      have hg := getD_le ls k hlt
      have ht := sizeOf_take_le ls k
      have hsn := sizeOf_snoc ls k hlt
      have HS := Lib.hid hsn
      clear hsn
      generalize hx : ls.getD k [] = x at *
      clear hx
      go_wp2
      go_round
      case rel => exact ⟨k + 1, by omega, by go_num, by rw [HS.out]; go_num⟩
      case measure => simp [intOf]; omega
    · go_wp2
      go_ret
      exact ⟨ret_int (by rw [List.take_of_length_le (by omega)]), rfl⟩
end Go.Proofs.YtecamaceainfpaaDoor
/-
  The library's contracts of (*strings.Builder).WriteByte and WriteString, laid at this program by hand (the shelf's own command does not lay these two here: a type that the bodies do not name).
-/
namespace Go.Proofs
open Go.Shelf
def Tryd.lays167_ren : Go.Shelf.Ren := ⟨fun | 167 => 80 | 240 => 98 | 276 => 117 | n => n, fun | 0 => 0 | 4 => 4 | 5 => 5 | 9 => 9 | 20 => 20 | 37 => 73 | 70 => 113 | 72 => 115 | 75 => 118 | 164 => 169 | 80 => 123 | n => n, fun | n => n⟩
theorem Tryd.lays167 : Go.Proofs.Lays.n167 Tryd.prog Tryd.lays167_ren := {
  mixed := by kernel_rfl
  f167 := Tryd.func80.trans (congrArg some (by kernel_rfl))
  f240 := Tryd.func98.trans (congrArg some (by kernel_rfl))
  f276 := Tryd.func117.trans (congrArg some (by kernel_rfl))
  t0 := Tryd.underlying0
  a0 := Tryd.isAgg0
  z0 := Tryd.sizeOf0
  v0 := Tryd.zeroValue0
  t4 := Tryd.underlying4
  a4 := Tryd.isAgg4
  z4 := Tryd.sizeOf4
  v4 := Tryd.zeroValue4
  t5 := Tryd.underlying5
  a5 := Tryd.isAgg5
  z5 := Tryd.sizeOf5
  v5 := Tryd.zeroValue5
  t9 := Tryd.underlying9
  a9 := Tryd.isAgg9
  z9 := Tryd.sizeOf9
  v9 := Tryd.zeroValue9
  t20 := Tryd.underlying20
  a20 := Tryd.isAgg20
  z20 := Tryd.sizeOf20
  v20 := Tryd.zeroValue20
  t37 := Tryd.underlying73
  a37 := Tryd.isAgg73
  z37 := Tryd.sizeOf73
  v37 := Tryd.zeroValue73
  t70 := Tryd.underlying113
  a70 := Tryd.isAgg113
  z70 := Tryd.sizeOf113
  v70 := Tryd.zeroValue113
  t72 := Tryd.underlying115
  a72 := Tryd.isAgg115
  z72 := Tryd.sizeOf115
  v72 := Tryd.zeroValue115
  t75 := Tryd.underlying118
  a75 := Tryd.isAgg118
  z75 := Tryd.sizeOf118
  v75 := Tryd.zeroValue118
  t164 := Tryd.underlying169
  a164 := Tryd.isAgg169
  z164 := Tryd.sizeOf169
  v164 := Tryd.zeroValue169 }
theorem Tryd.Builder_Extra_167 : Builder.Extra Tryd.prog Tryd.lays167_ren := {
  sizeBuilder := by kernel_rfl
  liesBuilder := by kernel_rfl
  t5 := Tryd.underlying5
  a5 := Tryd.isAgg5
  z5 := Tryd.sizeOf5
  v5 := Tryd.zeroValue5
  infoByte := by kernel_rfl
  cellsByte := by kernel_rfl
  sizeByte := by kernel_rfl
  neB5 := by decide }
def Tryd.lays166_ren : Go.Shelf.Ren := ⟨fun | 166 => 81 | 240 => 98 | 276 => 117 | n => n, fun | 0 => 0 | 3 => 3 | 4 => 4 | 9 => 9 | 20 => 20 | 37 => 73 | 70 => 113 | 72 => 115 | 75 => 118 | 164 => 169 | 80 => 123 | n => n, fun | n => n⟩
theorem Tryd.lays166 : Go.Proofs.Lays.n166 Tryd.prog Tryd.lays166_ren := {
  mixed := by kernel_rfl
  f166 := Tryd.func81.trans (congrArg some (by kernel_rfl))
  f240 := Tryd.func98.trans (congrArg some (by kernel_rfl))
  f276 := Tryd.func117.trans (congrArg some (by kernel_rfl))
  t0 := Tryd.underlying0
  a0 := Tryd.isAgg0
  z0 := Tryd.sizeOf0
  v0 := Tryd.zeroValue0
  t3 := Tryd.underlying3
  a3 := Tryd.isAgg3
  z3 := Tryd.sizeOf3
  v3 := Tryd.zeroValue3
  t4 := Tryd.underlying4
  a4 := Tryd.isAgg4
  z4 := Tryd.sizeOf4
  v4 := Tryd.zeroValue4
  t9 := Tryd.underlying9
  a9 := Tryd.isAgg9
  z9 := Tryd.sizeOf9
  v9 := Tryd.zeroValue9
  t20 := Tryd.underlying20
  a20 := Tryd.isAgg20
  z20 := Tryd.sizeOf20
  v20 := Tryd.zeroValue20
  t37 := Tryd.underlying73
  a37 := Tryd.isAgg73
  z37 := Tryd.sizeOf73
  v37 := Tryd.zeroValue73
  t70 := Tryd.underlying113
  a70 := Tryd.isAgg113
  z70 := Tryd.sizeOf113
  v70 := Tryd.zeroValue113
  t72 := Tryd.underlying115
  a72 := Tryd.isAgg115
  z72 := Tryd.sizeOf115
  v72 := Tryd.zeroValue115
  t75 := Tryd.underlying118
  a75 := Tryd.isAgg118
  z75 := Tryd.sizeOf118
  v75 := Tryd.zeroValue118
  t164 := Tryd.underlying169
  a164 := Tryd.isAgg169
  z164 := Tryd.sizeOf169
  v164 := Tryd.zeroValue169 }
theorem Tryd.Builder_Extra_166 : Builder.Extra Tryd.prog Tryd.lays166_ren := {
  sizeBuilder := by kernel_rfl
  liesBuilder := by kernel_rfl
  t5 := Tryd.underlying5
  a5 := Tryd.isAgg5
  z5 := Tryd.sizeOf5
  v5 := Tryd.zeroValue5
  infoByte := by kernel_rfl
  cellsByte := by kernel_rfl
  sizeByte := by kernel_rfl
  neB5 := by decide }
open Go.RowKit in
theorem Tryd.Builder_WriteByte (B b : Nat) (bs : List Value) (c : Int) (w : World) (h : Lib.IsBuilder 115 5 B b bs w) (hl : bs.length + 1 ≤ 140737488355328) (hB : B ≤ w.heap.size) :
    Calls Tryd.prog 80 #[.pointer (some ⟨b, 0, none⟩), .int .u8 c] w fun e w' => e = .returned .nilIface ∧ Lib.BuilderAt 115 5 B b (.pointer (some ⟨b, 0, none⟩)) (bs ++ [.int .u8 c]) w' ∧ Below B w w' :=
  Any.Builder_WriteByte Tryd.lays167 Tryd.Builder_Extra_167 B b bs c w h hl hB
open Go.RowKit in
theorem Tryd.Builder_WriteString (B b : Nat) (bs : List Value) (s : ByteArray) (w : World) (h : Lib.IsBuilder 115 5 B b bs w) (hl : bs.length + s.size ≤ 140737488355328) (hB : B ≤ w.heap.size) :
    Calls Tryd.prog 81 #[.pointer (some ⟨b, 0, none⟩), .string s] w fun e w' => e = .returned (.tuple #[.int .i64 s.size, .nilIface]) ∧ Lib.BuilderAt 115 5 B b (.pointer (some ⟨b, 0, none⟩)) (bs ++ Lib.strCells s) w' ∧ Below B w w' :=
  Any.Builder_WriteString Tryd.lays166 Tryd.Builder_Extra_166 B b bs s w h hl hB
end Go.Proofs
/-
  Walk: num.Row.
-/
namespace Go.Proofs.YtecamaceainfpaaDoor
open Go.RowKit

theorem or128' (m : Nat) : bits .or .u8 ((m : Int) % 128) 128 = ((UInt8.ofNat (m % 128 + 128)).toNat : Int) := by
  rw [← or128, IntKind.wrap_u8]
  congr 1; omega
theorem str_size (x : List UInt8) : (⟨x.toArray⟩ : ByteArray).size = x.length := by simp [ByteArray.size]
set_option maxRecDepth 100000 in
set_option maxHeartbeats 2000000 in
theorem row_any (w : World) (A : Option Addr) (c : Nat) (ls : List (List UInt8)) (hA : Strs w w.heap.size A ls) (hs : sizeOf ls ≤ 34359738368) :
    Calls Tryd.prog 53 #[.slice A ls.length c] w fun e w' => e = .returned (S (rowB ls)) ∧ Below w.heap.size w w' := by
  have HA := Lib.hid hA
  clear hA
  have hn : ls.length ≤ 34359738368 := by have := length_le_sizeOf ls; omega
  go_enter Tryd.func53, Tryd.ntmps53
  go_wp2
  go_loop [3, 12] (fun s i => ∃ k : Nat, k ≤ ls.length ∧ i = .int .i64 k ∧ s = .int .i64 (sizeOf (ls.take k))) (fun _ i => ls.length - (intOf i).toNat)
  case atStart => exact ⟨0, Nat.zero_le _, rfl, rfl⟩
  case round =>
    obtain ⟨k, hk, rfl, rfl⟩ := hrel
    by_cases hlt : k < ls.length
    · obtain ⟨ad, rfl, _, hc⟩ := HA.out.at' hlt
      have hg := getD_le ls k hlt
      have ht := sizeOf_take_le ls k
      have HS := Lib.hid (sizeOf_snoc ls k hlt)
      generalize ls.getD k [] = x at *
      go_wp2
      go_round
      case rel => exact ⟨k + 1, by omega, by go_num, by rw [HS.out]; go_num⟩
      case measure => simp [intOf]; omega
    · have hd : decide (k < ls.length) = false := by simp; omega
      have hall : ls.take k = ls := List.take_of_length_le (by omega)
      rw [hall]
      clear hall
      have hb0 : (w.alloc (.cells #[.pointer none, .slice none 0 0] 115)).heap[w.heap.size]? = some (.cells #[.pointer none, .slice none 0 0] 115 (0, 0)) := heap_alloc_new w _
      have HB0 := Lib.hid hb0
      clear hb0
      go_wp2_with fail
      refine (Tryd.Builder_Grow_fresh w.heap.size w.heap.size (sizeOf ls) _ (Nat.le_refl _) HB0.out (by simp) (by omega)).mono ?_
      rintro e w1 ⟨rfl, hb1, hbl1⟩
      have HB1 := Lib.hid hb1
      have HL1 : Hid (Below w.heap.size w w1) := Lib.hid (((Below.refl w.heap.size w).alloc (Nat.le_refl _) _).trans hbl1)
      clear hb1 hbl1 HB0
      go_wp2
      generalize hgb : w.heap.size = B at *
      clear hd hlt hk
      go_loopw [26] (fun i wr => ∃ k : Nat, k ≤ ls.length ∧ i = .int .i64 k ∧ Hid (Lib.BuilderAt 115 5 B B (.pointer (some ⟨B, 0, none⟩)) ((rowB (ls.take k)).map B8) wr) ∧ Hid (Below B w wr)) (fun i _ => ls.length - (intOf i).toNat)
      case atStart => exact ⟨0, by omega, rfl, HB1, HL1⟩
      case round =>
        obtain ⟨k, hk, rfl, HBk, HLk⟩ := hrel
        by_cases hlt : k < ls.length
        · obtain ⟨ad, rfl, had, hc⟩ := HA.out.at' hlt
          have hcr : wr.cell? (ad.add k) = some (S (ls.getD k [])) := (HLk.out.cell (by unfold Addr.add; split <;> exact had)).trans hc
          clear hc
          have hg := getD_le ls k hlt
          have ht : (rowB (ls.take (k + 1))).length ≤ 2 * sizeOf ls := by
            have h1 := rowB_le (ls.take (k + 1)) (Nat.le_trans (sizeOf_take_le ls (k + 1)) hs)
            have h2 := sizeOf_take_le ls (k + 1)
            omega
          rw [rowB_snoc ls k hlt, List.length_append, List.length_append] at ht
          have HS := Lib.hid (rowB_snoc ls k hlt)
          generalize ls.getD k [] = x at *
          obtain ⟨pre, HP⟩ : ∃ z, Hid (rowB (ls.take k) = z) := ⟨_, Lib.hid rfl⟩
          rw [HP.out] at HBk HS ht
          go_wp2
          obtain ⟨wi, HWI⟩ : ∃ z, Hid (wr = z) := ⟨_, Lib.hid rfl⟩
          rw [HWI.out] at HBk HLk hcr
          rw [HWI.out]
          clear HWI wr
          go_loopw [9] (fun s wr => ∃ (m : Nat) (done : List UInt8), m ≤ x.length ∧ s = .int .i64 m ∧ Hid (done ++ lenB m = lenB x.length) ∧ Hid (Lib.BuilderAt 115 5 B B (.pointer (some ⟨B, 0, none⟩)) ((pre ++ done).map B8) wr) ∧ Hid (Below B w wr)) (fun s _ => (intOf s).toNat)
          case atStart => exact ⟨x.length, [], Nat.le_refl _, rfl, Lib.hid rfl, by simpa using HBk, HLk⟩
          case round =>
            clear HBk HLk hcr
            obtain ⟨m, done, hm, rfl, HD, HBm, HLm⟩ := hrel
            have hbs : B ≤ wr.heap.size := by have := HLm.out.size; omega
            have hdl : done.length + (lenB m).length = (lenB x.length).length := by rw [← HD.out, List.length_append]
            by_cases hbig : 128 ≤ m
            · have e1 : bits .and .i64 (m : Int) 127 = ((m % 128 : Nat) : Int) := and127 m (by omega)
              have hbig' : ¬ m < 128 := by omega
              rw [lenB_big hbig'] at HD
              rw [lenB_big hbig', List.length_cons] at hdl
              go_wp2_with fail
              refine (Tryd.Builder_WriteByte B B ((pre ++ done).map B8) _ _ (Or.inr HBm.out) (by rw [List.length_map, List.length_append]; omega) hbs).mono ?_
              rintro e w2 ⟨rfl, hb2, hbl2⟩
              have HB2 : Hid (Lib.BuilderAt 115 5 B B (.pointer (some ⟨B, 0, none⟩)) ((pre ++ (done ++ [UInt8.ofNat (m % 128 + 128)])).map B8) w2) := Lib.hid (by
                rw [or128'] at hb2
                rw [← List.append_assoc, List.map_append (l₁ := pre ++ done)]
                exact hb2)
              have HL2 := Lib.hid (HLm.out.trans hbl2)
              clear hb2 hbl2
              go_wp2
              go_roundw
              case rel => exact ⟨m / 128, done ++ [UInt8.ofNat (m % 128 + 128)], by omega, by go_num, by simpa using HD, HB2, HL2⟩
              case measure => simp [intOf]; omega
            · have hsm : m < 128 := by omega
              rw [lenB_small hsm] at HD
              rw [lenB_small hsm] at hdl
              simp only [List.length_cons, List.length_nil] at hdl
              have hge : decide (128 ≤ (m : Int)) = false := by simp; omega
              have e1 : IntKind.u8.wrap (m : Int) = ((UInt8.ofNat m).toNat : Int) := byte_small hsm
              have e2 : (m : Int) = ((UInt8.ofNat m).toNat : Int) := by rw [UInt8.toNat_ofNat']; omega
              have E2 := Lib.hid e2
              clear e2 e1
              go_wp2_with fail
              refine (Tryd.Builder_WriteByte B B ((pre ++ done).map B8) _ _ (Or.inr HBm.out) (by rw [List.length_map, List.length_append]; omega) hbs).mono ?_
              rintro e w2 ⟨rfl, hb2, hbl2⟩
              have HB2 : Hid (Lib.BuilderAt 115 5 B B (.pointer (some ⟨B, 0, none⟩)) ((pre ++ lenB x.length).map B8) w2) := Lib.hid (by
                rw [E2.out] at hb2
                rw [← HD.out, ← List.append_assoc, List.map_append (l₁ := pre ++ done)]
                exact hb2)
              have hbs2 : B ≤ w2.heap.size := Nat.le_trans hbs hbl2.size
              have HL2 := Lib.hid (HLm.out.trans hbl2)
              clear hb2 hbl2
              go_wp2_with fail
              refine (Tryd.Builder_WriteString B B ((pre ++ lenB x.length).map B8) _ _ (Or.inr HB2.out) (by rw [List.length_map, List.length_append, str_size]; omega) hbs2).mono ?_
              rintro e w3 ⟨rfl, hb3, hbl3⟩
              have HB3 : Hid (Lib.BuilderAt 115 5 B B (.pointer (some ⟨B, 0, none⟩)) ((pre ++ lenB x.length ++ x).map B8) w3) := Lib.hid (by
                rw [List.map_append (l₁ := pre ++ lenB x.length)]
                exact hb3)
              have HL3 := Lib.hid (HL2.out.trans hbl3)
              clear hb3 hbl3
              go_wp2
              go_roundw
              case rel =>
                have R : ∃ k' : Nat, k' ≤ ls.length ∧ Value.int .i64 ((k : Int) + 1) = .int .i64 k' ∧ Hid (Lib.BuilderAt 115 5 B B (.pointer (some ⟨B, 0, none⟩)) ((rowB (ls.take k')).map B8) w3) ∧ Hid (Below B w w3) := ⟨k + 1, by omega, by go_num, by rw [HS.out]; exact HB3, HL3⟩
                first | exact R | ((repeat apply Exists.intro); exact ⟨R, rfl⟩)
              case measure => simp [intOf]; omega
        · have hd2 : decide (k < ls.length) = false := by simp; omega
          have hall : ls.take k = ls := List.take_of_length_le (by omega)
          rw [hall] at HBk
          clear hall
          have hbs : B ≤ wr.heap.size := by have := HLk.out.size; omega
          go_wp2_with fail
          refine (Tryd.Builder_String_any B B (rowB ls) _ (Or.inr HBk.out) hbs).mono ?_
          rintro e w2 ⟨rfl, hbl2⟩
          have HL2 := Lib.hid (HLk.out.trans hbl2)
          clear hbl2
          go_wp2
          go_ret
          exact ⟨rfl, by rw [hgb]; exact HL2.out⟩
end Go.Proofs.YtecamaceainfpaaDoor
/-
  Walks: image.Bytes, image.Sum.
-/
namespace Go.Proofs.YtecamaceainfpaaDoor
open Go.RowKit

/-- cells that a new block holds -/
theorem lies_made (w : World) (t : TypeId) (xs : List Value) (B : Nat) (hB : w.heap.size < B) : Lies (w.alloc (.cells xs.toArray t)) B (some ⟨w.heap.size, 0, none⟩) xs := fun k u hu => by
  refine ⟨_, rfl, hB, ?_⟩
  have ha : (⟨w.heap.size, 0, none⟩ : Addr).add k = ⟨w.heap.size, k, none⟩ := by unfold Addr.add; split <;> simp_all
  rw [ha, (Whole.made w t xs.toArray).cell]
  simpa using hu
theorem row_four (w : World) (a b c d : List UInt8) (hs : sizeOf [a, b, c, d] ≤ 34359738368) :
    Calls Tryd.prog 53 #[.slice (some ⟨w.heap.size, 0, none⟩) 4 4] (w.alloc (.cells #[S a, S b, S c, S d] 9)) fun e w' => e = .returned (S (rowB [a, b, c, d])) ∧ Below w.heap.size w w' :=
  (row_any (w.alloc (.cells #[S a, S b, S c, S d] 9)) (some ⟨w.heap.size, 0, none⟩) 4 [a, b, c, d] (lies_made w 9 [S a, S b, S c, S d] _ (by simp)) hs).mono fun _ _ h => ⟨h.1, ((Below.refl _ _).alloc (Nat.le_refl _) _).trans (h.2.mono (by simp))⟩
/-- an image as bytes -/
def imgB (fs bs : List (List UInt8)) (r : List UInt8) : List UInt8 := rowB [[104, 105, 98, 105], rowB fs, rowB bs, r]
theorem imgB_size (fs bs : List (List UInt8)) (r : List UInt8) (h : sizeOf fs + sizeOf bs + r.length ≤ 4294967296) : sizeOf [[104, 105, 98, 105], rowB fs, rowB bs, r] ≤ 34359738368 := by
  have h1 := rowB_le fs (by omega)
  have h2 := rowB_le bs (by omega)
  simp only [sizeOf, List.map_cons, List.map_nil, List.sum_cons, List.sum_nil, List.length_cons, List.length_nil]
  unfold sizeOf at h1 h2 h
  omega

set_option maxRecDepth 100000 in
set_option maxHeartbeats 2000000 in
theorem imgBytes_any (w : World) (A A' : Option Addr) (c c' : Nat) (fs bs : List (List UInt8)) (r : List UInt8) (hA : Strs w w.heap.size A fs) (hA' : Strs w w.heap.size A' bs) (hs : sizeOf fs + sizeOf bs + r.length ≤ 4294967296) :
    Calls Tryd.prog 33 #[.agg #[.slice A fs.length c, .slice A' bs.length c', S r]] w fun e w' => e = .returned (S (imgB fs bs r)) ∧ Below w.heap.size w w' := by
  have HA := Lib.hid hA
  have HA' := Lib.hid hA'
  clear hA hA'
  have HS := Lib.hid (imgB_size fs bs r hs)
  go_enter Tryd.func33, Tryd.ntmps33
  go_wp2_with fail
  have hx := Whole.made w 24 #[.slice A fs.length c, .slice A' bs.length c', S r]
  have hb := (Below.refl w.heap.size w).alloc (Nat.le_refl _) (.cells #[.slice A fs.length c, .slice A' bs.length c', S r] 24)
  have hz : (w.alloc (.cells #[.slice A fs.length c, .slice A' bs.length c', S r] 24)).heap.size = w.heap.size + 1 := by simp
  have c0 := hx.cell 0
  have c1 := hx.cell 1
  have c2 := hx.cell 2
  simp only [List.getElem?_toArray, List.getElem?_cons_zero, List.getElem?_cons_succ] at c0 c1 c2
  have HB := Lib.hid hb
  have HZ := Lib.hid hz
  have C0 := Lib.hid c0
  have C1 := Lib.hid c1
  have C2 := Lib.hid c2
  clear hx hb hz
  generalize w.alloc (.cells #[.slice A fs.length c, .slice A' bs.length c', S r] 24) = w1 at *
  have hlt : w.heap.size < w1.heap.size := by have := HZ.out; omega
  generalize hgx : w.heap.size = gx at *
  have HGX := Lib.hid hgx
  clear hgx
  have rowF : ∀ W : World, Below (gx + 1) w1 W → Calls Tryd.prog 53 #[.slice A fs.length c] W fun e w' => e = .returned (S (rowB fs)) ∧ Below W.heap.size W w' := fun W hW =>
    row_any W A c fs (((HA.out.below HB.out).below (hW.mono (by omega))).wide (by have := hW.size; omega)) (by omega)
  have rowG : ∀ W : World, Below (gx + 1) w1 W → Calls Tryd.prog 53 #[.slice A' bs.length c'] W fun e w' => e = .returned (S (rowB bs)) ∧ Below W.heap.size W w' := fun W hW =>
    row_any W A' c' bs (((HA'.out.below HB.out).below (hW.mono (by omega))).wide (by have := hW.size; omega)) (by omega)
  have RF := Lib.hid rowF
  have RG := Lib.hid rowG
  clear rowF rowG
  go_region_held3 (fun w' => w'.cell? ⟨gx, 0, none⟩ = some (.slice A fs.length c) ∧ w'.cell? ⟨gx, 1, none⟩ = some (.slice A' bs.length c') ∧ w'.cell? ⟨gx, 2, none⟩ = some (S r))
    (first
      | go_keep
      | (exact ⟨(BB.cell (p := ⟨gx, 0, none⟩) (Nat.lt_succ_self _)).trans C0.out, (BB.cell (p := ⟨gx, 1, none⟩) (Nat.lt_succ_self _)).trans C1.out, (BB.cell (p := ⟨gx, 2, none⟩) (Nat.lt_succ_self _)).trans C2.out⟩))
    (first
      | (go_at_call_of 53 (Value.slice A fs.length c); refine (RF.out _ ?_).mono ?_; (exact (Below.refl _ _).drew); rintro e w2 ⟨rfl, hbl⟩; have B2 : Below (gx + 1) w1 w2 := ((Below.refl _ _).drew).trans (hbl.mono hlt); have BB := B2; have hlt2 : gx < w2.heap.size := Nat.lt_of_lt_of_le hlt hbl.size)
      | (go_at_call_of 53 (Value.slice A' bs.length c'); refine (RG.out _ ?_).mono ?_; (exact B2); rintro e w3 ⟨rfl, hbl⟩; have B3 : Below (gx + 1) w1 w3 := B2.trans (hbl.mono hlt2); have BB := B3; have hlt3 : gx < w3.heap.size := Nat.lt_of_lt_of_le hlt2 hbl.size)
      | (go_at_call 53; refine (row_four w3 [104, 105, 98, 105] (rowB fs) (rowB bs) r HS.out).mono ?_; rintro e w4 ⟨rfl, hbl⟩; have B4 : Below (gx + 1) w1 w4 := B3.trans (hbl.mono hlt3); have BB := B4))
  go_wp2
  go_ret
  refine ⟨rfl, ?_⟩
  rw [HGX.out]
  exact HB.out.trans (B4.mono (by omega))

theorem lies_one {w w' : World} {B : Nat} {A : Option Addr} {xs : List Value} (h : Lies w B A xs) (hb : Below B w w') (hB : B ≤ w'.heap.size) : Lies w' w'.heap.size A xs := (h.below hb).wide hB

set_option maxRecDepth 100000 in
set_option maxHeartbeats 2000000 in
theorem imgSum_any (w : World) (A A' : Option Addr) (c c' : Nat) (fs bs : List (List UInt8)) (r : List UInt8) (hT : Tabs w) (hA : Strs w w.heap.size A fs) (hA' : Strs w w.heap.size A' bs) (hs : sizeOf fs + sizeOf bs + r.length ≤ 4294967296) :
    Calls Tryd.prog 36 #[.agg #[.slice A fs.length c, .slice A' bs.length c', S r]] w fun e w' => e = .returned (D32 (dig (imgB fs bs r))) ∧ Below w.heap.size w w' := by
  have HA := Lib.hid hA
  have HA' := Lib.hid hA'
  have HT := Lib.hid hT
  clear hA hA' hT
  go_enter Tryd.func36, Tryd.ntmps36
  go_wp2_with fail
  have hz := Whole.made (w.alloc (.cells #[.slice A fs.length c, .slice A' bs.length c', S r] 24)) 29 ((List.replicate 32 (0 : UInt8)).map B8).toArray
  have hb : Below w.heap.size w ((w.alloc (.cells #[.slice A fs.length c, .slice A' bs.length c', S r] 24)).alloc (.cells ((List.replicate 32 (0 : UInt8)).map B8).toArray 29)) := ((Below.refl _ _).alloc (Nat.le_refl _) _).alloc (by simp) _
  rw [show (w.alloc (.cells #[.slice A fs.length c, .slice A' bs.length c', S r] 24)).heap.size = w.heap.size + 1 by simp] at hz
  have HZ := Lib.hid hz
  have HB := Lib.hid hb
  clear hz hb
  change Calls _ _ _ ((w.alloc (.cells #[.slice A fs.length c, .slice A' bs.length c', S r] 24)).alloc (.cells ((List.replicate 32 (0 : UInt8)).map B8).toArray 29)) _
  generalize (w.alloc (.cells #[.slice A fs.length c, .slice A' bs.length c', S r] 24)).alloc (.cells ((List.replicate 32 (0 : UInt8)).map B8).toArray 29) = w1 at *
  have hl1 := HZ.out.lt
  refine (imgBytes_any w1 A A' c c' fs bs r (lies_one HA.out HB.out HB.out.size) (lies_one HA'.out HB.out HB.out.size) hs).mono ?_
  rintro e w2 ⟨rfl, hb2⟩
  have HZ2 := Lib.hid (HZ.out.below hb2 hl1)
  have HB2 : Hid (Below w.heap.size w w2) := Lib.hid (HB.out.trans (hb2.mono HB.out.size))
  have hl2 := HZ2.out.lt
  clear hb2 HZ HB
  have hlen : (imgB fs bs r).length ≤ 68719476736 := by
    unfold imgB
    have := rowB_le _ (imgB_size fs bs r hs)
    have := imgB_size fs bs r hs
    omega
  obtain ⟨X, HX⟩ : ∃ z, Hid (imgB fs bs r = z) := ⟨_, Lib.hid rfl⟩
  rw [HX.out] at hlen
  rw [HX.out]
  go_wp2_with fail
  refine (sum_any (w2.alloc (.cells #[S X] 9)) (some ⟨w2.heap.size, 0, none⟩) 1 [X] (HT.out.below (Nat.le_refl _) (HB2.out.alloc HB2.out.size _)) (lies_made w2 9 [S X] _ (by simp)) (by simp) (by simp; omega)).mono ?_
  rintro e w3 ⟨rfl, hb3⟩
  have HB3 : Hid (Below w.heap.size w w3) := Lib.hid ((HB2.out.alloc HB2.out.size _).trans (hb3.mono (by have := HB2.out.size; simp; omega)))
  have HZ3 := Lib.hid ((HZ2.out.block _).below hb3 (by simp; omega))
  clear hb3 HB2 HZ2
  have HDD : Hid (dig [X].flatten = dig X) := Lib.hid (by simp)
  have HDL : Hid ((dig X).length = 32) := Lib.hid (dig_length X)
  rw [HDD.out]
  obtain ⟨D, HDn⟩ : ∃ z, Hid (dig X = z) := ⟨_, Lib.hid rfl⟩
  rw [HDn.out] at HDL
  rw [HDn.out]
  have HDi : Hid ((Tryd.prog.info? 29).map (·.size) = some (D.map B8).toArray.size) := Lib.hid (by
    rw [List.size_toArray, List.length_map, HDL.out]; kernel_rfl)
  have HDl : Hid ((Tryd.prog.info? 29).map (·.size) = some (D.map B8).length) := Lib.hid (by
    rw [List.length_map, HDL.out]; kernel_rfl)
  have HC1 : Hid (0 + (D.map B8).length ≤ ((List.replicate 32 (0 : UInt8)).map B8).length) := Lib.hid (by rw [List.length_map, List.length_map, HDL.out]; decide)
  go_wp2_with (refine wpList_store_at rfl 29 (.tmp 2) (.tmp 6) rfl rfl (w.heap.size + 1) 0 rfl (D.map B8) rfl HDl.out ((List.replicate 32 (0 : UInt8)).map B8) 29 HZ3.out HC1.out (B8_one _) ?_; intro w6 H6 F6)
  have h6 : Whole w6 (w.heap.size + 1) 29 (D.map B8).toArray := by
    have := H6.out
    rw [List.length_map, HDL.out] at this
    simpa using this
  exact bodyPost_ret (v := .agg (D.map B8).toArray) (results_cell_row rfl _ _ (w.heap.size + 1) 29 _ (0, 0) _ rfl h6 Tryd.underlying29 rfl HDi.out) rfl ⟨by rw [HX.out, HDn.out], below_grown HB3.out F6.out HB3.out.size (by omega)⟩
end Go.Proofs.YtecamaceainfpaaDoor
/-
  Walk: delta.others.
-/
namespace Go.Proofs.YtecamaceainfpaaDoor
open Go.RowKit

/-- writes, as cells -/
def wCells (ws : List (Int × List UInt8)) : List Value := ws.flatMap fun p => [Value.int .i64 p.1, S p.2]
theorem wCells_append (a b : List (Int × List UInt8)) : wCells (a ++ b) = wCells a ++ wCells b := by simp [wCells]
theorem wCells_length (ws : List (Int × List UInt8)) : (wCells ws).length = 2 * ws.length := by
  induction ws with
  | nil => rfl
  | cons p ws ih =>
    have : wCells (p :: ws) = [Value.int .i64 p.1, S p.2] ++ wCells ws := by simp [wCells]
    rw [this, List.length_append, ih]; simp; omega
/-- those of b that a has not, or that are others in a; of the first k -/
def othersTo (a b : List (List UInt8)) (k : Nat) : List (Int × List UInt8) := (List.range k).filterMap fun i => if i < a.length ∧ a.getD i [] = b.getD i [] then none else some ((i : Int), b.getD i [])
theorem othersTo_same {a b : List (List UInt8)} {k : Nat} (h : k < a.length) (e : a.getD k [] = b.getD k []) : othersTo a b (k + 1) = othersTo a b k := by
  unfold othersTo; rw [List.range_succ, List.filterMap_append]; simp only [List.filterMap_cons, List.filterMap_nil, if_pos (And.intro h e), List.append_nil]
theorem othersTo_new {a b : List (List UInt8)} {k : Nat} (h : ¬ (k < a.length ∧ a.getD k [] = b.getD k [])) : othersTo a b (k + 1) = othersTo a b k ++ [((k : Int), b.getD k [])] := by
  unfold othersTo; rw [List.range_succ, List.filterMap_append]; simp only [List.filterMap_cons, List.filterMap_nil, if_neg h]
theorem othersTo_le (a b : List (List UInt8)) (k : Nat) : (othersTo a b k).length ≤ k := by
  unfold othersTo
  exact Nat.le_trans (List.length_filterMap_le _ _) (by simp)

theorem own_ge {w : World} {base : Nat} {e : TypeId} {size n : Nat} {v : Value} {xs : List Value} (h : w.ownsRow base e size v n xs) : ∀ g, v.ownBlock = some g → base ≤ g := by
  intro g hg
  rcases h.2 with ⟨rfl, _⟩ | ⟨g', cap, cur, rfl, hb, _⟩
  · simp [Value.ownBlock] at hg
  · have : g' = g := by simpa [Value.ownBlock] using hg
    subst this; exact hb
theorem Tryd.infoWrite : (Tryd.prog.info? 36).map (fun i => (i.zero, i.size, i.bytes)) = some (some (.agg #[.int .i64 0, .string ⟨#[]⟩]), 2, 24) := by kernel_rfl

set_option maxRecDepth 100000 in
set_option maxHeartbeats 1000000 in
theorem others_any (w : World) (A A' : Option Addr) (c c' : Nat) (a b : List (List UInt8)) (hA : Strs w w.heap.size A a) (hA' : Strs w w.heap.size A' b) (ha : a.length ≤ 1099511627776) (hb : b.length ≤ 1099511627776) :
    Calls Tryd.prog 40 #[.slice A a.length c, .slice A' b.length c'] w fun e w' => (∃ v, e = .returned v ∧ w'.ownsRow w.heap.size 36 2 v (othersTo a b b.length).length (wCells (othersTo a b b.length))) ∧ Below w.heap.size w w' := by
  obtain ⟨i0, hi0, hz0, hz1, hz2⟩ := info_parts Tryd.infoWrite
  have HA := Lib.hid hA
  have HA' := Lib.hid hA'
  clear hA hA'
  go_enter Tryd.func40, Tryd.ntmps40
  go_wp2
  go_loopw [5, 10] (fun v i wr => ∃ k : Nat, k ≤ b.length ∧ i = .int .i64 k ∧ Hid (wr.ownsRow w.heap.size 36 2 v (othersTo a b k).length (wCells (othersTo a b k))) ∧ Hid (Below w.heap.size w wr)) (fun _ i _ => b.length - (intOf i).toNat)
  case atStart => exact ⟨0, by omega, rfl, Lib.hid (World.ownsRow_nil _ _ _ _), Lib.hid (Below.refl _ _)⟩
  case round =>
    obtain ⟨k, hk, rfl, HO, HB⟩ := hrel
    by_cases hlt : k < b.length
    · obtain ⟨ad, rfl, had, hc⟩ := HA'.out.at' hlt
      have hcr : wr.cell? (ad.add k) = some (S (b.getD k [])) := (HB.out.cell (by unfold Addr.add; split <;> exact had)).trans hc
      clear hc
      by_cases hka : k < a.length
      · obtain ⟨ad2, rfl, had2, hc2⟩ := HA.out.at' hka
        have hcr2 : wr.cell? (ad2.add k) = some (S (a.getD k [])) := (HB.out.cell (by unfold Addr.add; split <;> exact had2)).trans hc2
        clear hc2
        have hd : decide (a.length ≤ k) = false := by simp; omega
        by_cases hxy : a.getD k [] = b.getD k []
        · have HE := Lib.hid (othersTo_same hka hxy)
          have hbe : (a.getD k [] == b.getD k []) = true := beq_iff_eq.2 hxy
          clear hxy
          generalize a.getD k [] = x at *
          generalize b.getD k [] = y at *
          go_wp2
          go_roundw
          case rel =>
            have R : ∃ k' : Nat, k' ≤ b.length ∧ Value.int .i64 ((k : Int) + 1) = .int .i64 k' ∧ Hid (wr.ownsRow w.heap.size 36 2 u5 (othersTo a b k').length (wCells (othersTo a b k'))) ∧ Hid (Below w.heap.size w wr) := ⟨k + 1, by omega, by go_num, by rw [HE.out]; exact HO, HB⟩
            first | exact R | ((repeat apply Exists.intro); exact ⟨R, rfl⟩)
          case measure => simp [intOf]; omega
        · have HE := Lib.hid (othersTo_new (a := a) (b := b) (k := k) (fun h => hxy h.2))
          have hbe : (a.getD k [] == b.getD k []) = false := beq_eq_false_iff_ne.2 hxy
          clear hxy
          generalize a.getD k [] = x at *
          generalize b.getD k [] = y at *
          have hnews : ∀ j u, [Value.int .i64 (k : Int), S y][j]? = some u → (wr.alloc (.cells #[.int .i64 (k : Int), S y] 36)).cell? ((⟨wr.heap.size, 0, none⟩ : Addr).add j) = some u := fun j u hu => by
            obtain ⟨ad', e', _, hc'⟩ := lies_made wr 36 [Value.int .i64 (k : Int), S y] (wr.heap.size + 1) (by omega) j u hu
            injection e' with e'; subst e'; exact hc'
          have HN := Lib.hid hnews
          have H1 : Hid (∀ u ∈ [Value.int .i64 (k : Int), S y], u.oneCell' = true) := Lib.hid (by simp [Value.oneCell'])
          have hle := othersTo_le a b k
          have H63 : Hid ((othersTo a b k).length + 1 ≤ maxLen) := Lib.hid (by unfold maxLen; omega)
          have HBY : Hid (((othersTo a b k).length + 1) * 24 ≤ 140737488355328) := Lib.hid (by omega)
          have HBA : Hid (w.heap.size ≤ (wr.alloc (.cells #[.int .i64 (k : Int), S y] 36)).heap.size) := Lib.hid (by have := HB.out.size; simp; omega)
          have HOA := Lib.hid (HO.out.alloc (.cells #[.int .i64 (k : Int), S y] 36))
          clear hnews hle
          go_wp2_with (at_builtin; refine wpList_append_own _ rfl (.tmp 27) (.tmp 31) 30 rfl w.heap.size 36 i0 _ 2 24 Tryd.underlying30 hi0 hz0 hz1 hz2 rfl (by decide) _ _ _ rfl HOA.out ⟨wr.heap.size, 0, none⟩ 1 1 [.int .i64 (k : Int), S y] rfl rfl HN.out H1.out H63.out HBY.out HBA.out ?_; intro v' w1 hown' hgrow _)
          have HO1 : Hid (w1.ownsRow w.heap.size 36 2 v' (othersTo a b (k + 1)).length (wCells (othersTo a b (k + 1)))) := Lib.hid (by
            rw [HE.out, List.length_append, wCells_append]
            exact hown')
          have HB1 : Hid (Below w.heap.size w w1) := Lib.hid ((HB.out.alloc HB.out.size _).grown hgrow HBA.out (own_ge HO.out))
          clear hown' hgrow
          go_wp2
          go_roundw
          case rel =>
            have R : ∃ k' : Nat, k' ≤ b.length ∧ Value.int .i64 ((k : Int) + 1) = .int .i64 k' ∧ Hid (w1.ownsRow w.heap.size 36 2 v' (othersTo a b k').length (wCells (othersTo a b k'))) ∧ Hid (Below w.heap.size w w1) := ⟨k + 1, by omega, by go_num, HO1, HB1⟩
            first | exact R | ((repeat apply Exists.intro); exact ⟨R, rfl⟩)
          case measure => simp [intOf]; omega
      · have hd : decide (a.length ≤ k) = true := by simp; omega
        have HE := Lib.hid (othersTo_new (a := a) (b := b) (k := k) (fun h => hka h.1))
        generalize b.getD k [] = y at *
        have hnews : ∀ j u, [Value.int .i64 (k : Int), S y][j]? = some u → (wr.alloc (.cells #[.int .i64 (k : Int), S y] 36)).cell? ((⟨wr.heap.size, 0, none⟩ : Addr).add j) = some u := fun j u hu => by
          obtain ⟨ad', e', _, hc'⟩ := lies_made wr 36 [Value.int .i64 (k : Int), S y] (wr.heap.size + 1) (by omega) j u hu
          injection e' with e'; subst e'; exact hc'
        have HN := Lib.hid hnews
        have H1 : Hid (∀ u ∈ [Value.int .i64 (k : Int), S y], u.oneCell' = true) := Lib.hid (by simp [Value.oneCell'])
        have hle := othersTo_le a b k
        have H63 : Hid ((othersTo a b k).length + 1 ≤ maxLen) := Lib.hid (by unfold maxLen; omega)
        have HBY : Hid (((othersTo a b k).length + 1) * 24 ≤ 140737488355328) := Lib.hid (by omega)
        have HBA : Hid (w.heap.size ≤ (wr.alloc (.cells #[.int .i64 (k : Int), S y] 36)).heap.size) := Lib.hid (by have := HB.out.size; simp; omega)
        have HOA := Lib.hid (HO.out.alloc (.cells #[.int .i64 (k : Int), S y] 36))
        clear hnews hle
        go_wp2_with (at_builtin; refine wpList_append_own _ rfl (.tmp 27) (.tmp 31) 30 rfl w.heap.size 36 i0 _ 2 24 Tryd.underlying30 hi0 hz0 hz1 hz2 rfl (by decide) _ _ _ rfl HOA.out ⟨wr.heap.size, 0, none⟩ 1 1 [.int .i64 (k : Int), S y] rfl rfl HN.out H1.out H63.out HBY.out HBA.out ?_; intro v' w1 hown' hgrow _)
        have HO1 : Hid (w1.ownsRow w.heap.size 36 2 v' (othersTo a b (k + 1)).length (wCells (othersTo a b (k + 1)))) := Lib.hid (by
          rw [HE.out, List.length_append, wCells_append]
          exact hown')
        have HB1 : Hid (Below w.heap.size w w1) := Lib.hid ((HB.out.alloc HB.out.size _).grown hgrow HBA.out (own_ge HO.out))
        clear hown' hgrow
        go_wp2
        go_roundw
        case rel =>
          have R : ∃ k' : Nat, k' ≤ b.length ∧ Value.int .i64 ((k : Int) + 1) = .int .i64 k' ∧ Hid (w1.ownsRow w.heap.size 36 2 v' (othersTo a b k').length (wCells (othersTo a b k'))) ∧ Hid (Below w.heap.size w w1) := ⟨k + 1, by omega, by go_num, HO1, HB1⟩
          first | exact R | ((repeat apply Exists.intro); exact ⟨R, rfl⟩)
        case measure => simp [intOf]; omega
    · obtain rfl : k = b.length := by omega
      go_wp2
      go_ret
      exact ⟨⟨_, rfl, HO.out⟩, HB.out⟩
end Go.Proofs.YtecamaceainfpaaDoor
/-
  Laws: a struct built out of parts, a whole struct stored, as steps of a region that draws its order and as operations of a plain one; a delta's cells.
-/
namespace Go.Proofs.YtecamaceainfpaaDoor
open Go.RowKit
section
variable {P : Program}
theorem wp_build {o : Oper} {a : Act} {w : World} {K : Act → World → Prop} {Q : Exit → Act → World → Prop} (ty : TypeId) (parts : Array (Nat × Operand)) (ho : o.op = .build ty parts)
    (vals : Array (Nat × Value)) (hp : (parts.map fun (i, x) => (i, a.eval x)) = vals) (v : Value) (hr : (Instr.build ty vals).run P w = .ok v w) (h : K (a.put o.dst v) w) : o.wp P a w K Q := by
  unfold Oper.wp execOp
  simp only [ho, hp, Sem.run_bind, hr, Result.andThen_ok, Sem.run_pure]
  exact h
theorem wpList_build {ops : Array Oper} {rest : List Oper} {o : Oper} {a : Act} {w : World} {Q : Exit → Act → World → Prop} (hgd : o.guard = none) (ty : TypeId) (parts : Array (Nat × Operand)) (ho : o.op = .build ty parts)
    (vals : Array (Nat × Value)) (hp : (parts.map fun (i, x) => (i, a.eval x)) = vals) (v : Value) (hr : (Instr.build ty vals).run P w = .ok v w) (h : wpList P ops Q rest (a.put o.dst v) w) : wpList P ops Q (o :: rest) a w :=
  wpList_plain hgd fun _ hK => wp_build ty parts ho vals hp v hr (hK _ _ h)
theorem step_build {ops : Array Oper} {o : Oper} {a : Act} {w : World} {K : Act → World → Prop} {Q : Exit → Act → World → Prop} {E : Prop} (hgd : o.guard = none) (ty : TypeId) (parts : Array (Nat × Operand)) (ho : o.op = .build ty parts)
    (vals : Array (Nat × Value)) (hp : (parts.map fun (i, x) => (i, a.eval x)) = vals) (v : Value) (hr : (Instr.build ty vals).run P w = .ok v w) (h : K (a.put o.dst v) w) :
    if Region.wanted o (yielded ops a.tmps) = true then Oper.wp P o a w K Q else E := by
  have hw : Region.wanted o (yielded ops a.tmps) = true := by simp [Region.wanted, hgd]
  rw [if_pos hw]
  exact wp_build ty parts ho vals hp v hr h
theorem wp_store_at {o : Oper} {a : Act} {w : World} {K : Act → World → Prop} {Q : Exit → Act → World → Prop} (ty : TypeId) (x y : Operand) (ho : o.op = .store ty x y) (hdst : o.dst = none)
    (g off : Nat) (hx : a.eval x = .pointer (some ⟨g, off, none⟩)) (cs : List Value) (hy : a.eval y = .agg cs.toArray) (hi : (P.info? ty).map (·.size) = some cs.length)
    (cur : List Value) (t : TypeId) (hg : Whole w g t cur.toArray) (hfit : off + cs.length ≤ cur.length) (h1 : ∀ v ∈ cs, v.oneCell' = true)
    (h : ∀ w', Hid (Whole w' g t (cur.take off ++ (cs ++ cur.drop (off + cs.length))).toArray) → Hid (w.grownBy w' (some g)) → K a w') : o.wp P a w K Q := by
  have hrun := run_storeVar_at w ty g off cs hi cur t hg hfit h1
  have hk := h _ (Lib.hid (setRow_whole hg _)) (Lib.hid (setRow_only w g (cur.take off ++ (cs ++ cur.drop (off + cs.length))).toArray))
  unfold Oper.wp execOp
  simp only [ho, hx, hy, Instr.storeAt, Instr.sureAddr, Sem.run_bind, Sem.run_pure, Result.andThen_ok, hrun]
  simpa [Oper.upon, Act.put, hdst] using hk
theorem step_store_at {ops : Array Oper} {o : Oper} {a : Act} {w : World} {K : Act → World → Prop} {Q : Exit → Act → World → Prop} {E : Prop} (hgd : o.guard = none) (ty : TypeId) (x y : Operand) (ho : o.op = .store ty x y) (hdst : o.dst = none)
    (g off : Nat) (hx : a.eval x = .pointer (some ⟨g, off, none⟩)) (cs : List Value) (hy : a.eval y = .agg cs.toArray) (hi : (P.info? ty).map (·.size) = some cs.length)
    (cur : List Value) (t : TypeId) (hg : Whole w g t cur.toArray) (hfit : off + cs.length ≤ cur.length) (h1 : ∀ v ∈ cs, v.oneCell' = true)
    (h : ∀ w', Hid (Whole w' g t (cur.take off ++ (cs ++ cur.drop (off + cs.length))).toArray) → Hid (w.grownBy w' (some g)) → K a w') :
    if Region.wanted o (yielded ops a.tmps) = true then Oper.wp P o a w K Q else E := by
  have hw : Region.wanted o (yielded ops a.tmps) = true := by simp [Region.wanted, hgd]
  rw [if_pos hw]
  exact wp_store_at ty x y ho hdst g off hx cs hy hi cur t hg hfit h1 h
end

/-- a delta as cells -/
def dCells (f : List UInt8) (v1 v2 : Value) (r t : List UInt8) : List Value := f.map B8 ++ (v1 :: v2 :: S r :: t.map B8)
theorem dCells_length {f t : List UInt8} (hf : f.length = 32) (ht : t.length = 32) (v1 v2 : Value) (r : List UInt8) : (dCells f v1 v2 r t).length = 67 := by simp [dCells, hf, ht]
theorem list32 {α : Type} (l : List α) (h : l.length = 32) : ∃ x0 x1 x2 x3 x4 x5 x6 x7 x8 x9 x10 x11 x12 x13 x14 x15 x16 x17 x18 x19 x20 x21 x22 x23 x24 x25 x26 x27 x28 x29 x30 x31, l = [x0, x1, x2, x3, x4, x5, x6, x7, x8, x9, x10, x11, x12, x13, x14, x15, x16, x17, x18, x19, x20, x21, x22, x23, x24, x25, x26, x27, x28, x29, x30, x31] := by
  match l, h with
  | [x0, x1, x2, x3, x4, x5, x6, x7, x8, x9, x10, x11, x12, x13, x14, x15, x16, x17, x18, x19, x20, x21, x22, x23, x24, x25, x26, x27, x28, x29, x30, x31], _ => exact ⟨x0, x1, x2, x3, x4, x5, x6, x7, x8, x9, x10, x11, x12, x13, x14, x15, x16, x17, x18, x19, x20, x21, x22, x23, x24, x25, x26, x27, x28, x29, x30, x31, rfl⟩
set_option maxRecDepth 100000 in
theorem run_build_delta (f t : List UInt8) (hf : f.length = 32) (ht : t.length = 32) (A A' : Option Addr) (n c n' c' : Nat) (r : List UInt8) (w : World) :
    (Instr.build 32 #[(0, D32 f), (1, .slice A n c), (2, .slice A' n' c'), (3, S r), (4, D32 t)]).run Tryd.prog w = .ok (.agg (dCells f (.slice A n c) (.slice A' n' c') r t).toArray) w := by
  obtain ⟨x0, x1, x2, x3, x4, x5, x6, x7, x8, x9, x10, x11, x12, x13, x14, x15, x16, x17, x18, x19, x20, x21, x22, x23, x24, x25, x26, x27, x28, x29, x30, x31, rfl⟩ := list32 f hf
  obtain ⟨y0, y1, y2, y3, y4, y5, y6, y7, y8, y9, y10, y11, y12, y13, y14, y15, y16, y17, y18, y19, y20, y21, y22, y23, y24, y25, y26, y27, y28, y29, y30, y31, rfl⟩ := list32 t ht
  kernel_rfl
theorem dCells_one (f : List UInt8) (A A' : Option Addr) (n c n' c' : Nat) (r t : List UInt8) : ∀ v ∈ dCells f (.slice A n c) (.slice A' n' c') r t, v.oneCell' = true := by
  intro v hv
  simp only [dCells, List.mem_append, List.mem_cons] at hv
  rcases hv with h | h | h | h | h
  · exact B8_one f v h
  · subst h; rfl
  · subst h; rfl
  · subst h; rfl
  · exact B8_one t v h
end Go.Proofs.YtecamaceainfpaaDoor
