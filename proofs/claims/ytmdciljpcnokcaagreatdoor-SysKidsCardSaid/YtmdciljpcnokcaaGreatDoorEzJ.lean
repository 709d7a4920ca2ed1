/-
  A run of closed code by the kernel: slices.Delete at a row of structs.
-/
import Derived.Test.YtmdciljpcnokcaaGreatDoorEzI
namespace Go.Proofs.YtmdciljpcnokcaaGreatDoor.Ex
open Go.RowKit
theorem clear_run {P : Program} {t elem : TypeId} {i : TypeInfo} {z : Value} (hu : P.underlying t = some (.slice elem)) (hi : P.info? elem = some i) (hz : i.zero = some z) (a : Addr) (d c : Nat) (ty : TypeId) {w w' : World}
    (h : (storeCells a (Builtin.zeroCells z.cells (d + 1)).toList).run P w = .ok () w') : (Builtin.clear_ #[t] ty #[.slice (some a) (d + 1) c]).run P w = .ok (.tuple #[]) w' := by
  have h2 : ∀ W, (zeroValue elem).run P W = .ok z W := fun W => by simp [zeroValue, typeInfo, hi, hz]
  simp [Builtin.clear_, run_underlying hu, h2, h]
theorem prsUnder : Go.Proofs.Tryz.prog.underlying 25 = some (.slice 50) := by kernel_rfl
set_option maxHeartbeats 2000000 in
set_option maxRecDepth 100000 in
theorem del_walk [Sig] (B o n c i j : Nat) (w w1 w2 : World) (hij : i < j) (hjn : j ≤ n) (hnc : n ≤ c)
    (us : Array Value) {ti : TypeInfo} {z : Value} (hti : Go.Proofs.Tryz.prog.info? 50 = some ti) (hz : ti.zero = some z) (HL : (loadCellsFrom ⟨B, o + j * 96, none⟩ 0 ((n - j) * 96) #[]).run Go.Proofs.Tryz.prog w.drew = .ok us w.drew)
    (HS : (storeCells ⟨B, o + i * 96, none⟩ us.toList).run Go.Proofs.Tryz.prog w.drew = .ok () w1)
    (HC : (storeCells ⟨B, o + (i + (n - j)) * 96, none⟩ (Builtin.zeroCells z.cells (n - (i + (n - j)))).toList).run Go.Proofs.Tryz.prog w1 = .ok () w2) :
    Calls Go.Proofs.Tryz.prog 197 #[.slice (some ⟨B, o, none⟩) n c, .int .i64 (i : Int), .int .i64 (j : Int)] w fun e w' => e = .returned (.slice (some ⟨B, o, none⟩) (i + (n - j)) c) ∧ w' = w2 := by
  have p0 : (0 : Int) ≤ (i : Int) := by omega
  have p1 : (i : Int) ≤ (j : Int) := by omega
  have p2 : (j : Int) ≤ (n : Int) := by omega
  have p3 : (n : Int) ≤ (c : Int) := by omega
  have p4 : decide (i = j) = false := decide_eq_false (by omega)
  have p5 : ¬ i = j := by omega
  have mixed : Go.Proofs.Tryz.prog.follows .mixedOrders = true := by kernel_rfl
  go_enter Tryz.func197, Tryz.ntmps197
  have p6 : ¬ c = i + (n - j) := by omega
  go_wp2
  have p7 : i + (n - j) ≤ c := by omega
  by_cases hcj : c = j
  · obtain rfl := hcj
    obtain rfl : n = c := by omega
    have e0 : us = #[] := by
      rw [Nat.sub_self, Nat.zero_mul] at HL
      cases HL
      rfl
    subst e0
    obtain rfl : w1 = w.drew := by cases HS; rfl
    rw [Nat.sub_self, Nat.add_zero] at HC p6
    obtain ⟨d, hd⟩ : ∃ d, n - i = d + 1 := ⟨n - i - 1, by omega⟩
    rw [hd] at HC
    have HW := Lib.hid (clear_run prsUnder hti hz _ d (d + 1) 0 HC)
    clear HL HS p7 HC hti hz
    go_region_o
    all_goals
      go_wp2
      rw [HW.out]
      simp only [Result.andThen]
      rw [Oper.upon_value]
      go_wp2
      go_ret
      exact ⟨by simp, rfl⟩
  · obtain ⟨d, hd⟩ : ∃ d, n - (i + (n - j)) = d + 1 := ⟨n - (i + (n - j)) - 1, by omega⟩
    rw [hd] at HC
    have HW := Lib.hid (clear_run prsUnder hti hz _ d (c - (i + (n - j))) 0 HC)
    clear HC hti hz
    go_region_o
    all_goals
      go_wp2
      rw [HW.out]
      simp only [Result.andThen]
      rw [Oper.upon_value]
      go_wp2
      go_ret
      exact ⟨rfl, rfl⟩
theorem RL3 [Sig] {α β : Type} {R : α → β → Prop} {x x' x'' : α} {l : List β} (h : RL R [x, x', x''] l) : ∃ y y' y'', l = [y, y', y''] ∧ R x y ∧ R x' y' ∧ R x'' y'' := by
  match l, h with
  | y :: l, h =>
    obtain ⟨y', y'', rfl, h2, h3⟩ := RL2 h.2
    exact ⟨y, y', y'', rfl, h.1, h2, h3⟩
  | [], h => exact h.elim
noncomputable def zP : List Sc := (zeroOf Go.Proofs.Tryz.prog 50).getD []
theorem zP_some : (zeroOf Go.Proofs.Tryz.prog 50).isSome = true := by decide +kernel
theorem procUnder : (Go.Proofs.Tryz.prog.info? 50).map (·.size) = some 96 := by kernel_rfl
theorem irDel_sound [Sig] : IrSound Go.Proofs.Tryz.prog 197 (irDel zP 96) := by
  obtain ⟨zl, hzl⟩ := Option.isSome_iff_exists.1 zP_some
  have hzp : zP = zl := by unfold zP; rw [hzl]; rfl
  obtain ⟨ti, z, hti, hz, hzR⟩ := zeroOf_spec hzl
  rw [hzp]
  intro vs H k h
  obtain ⟨x, y, u, rfl, h1⟩ := arg3_true (show arg3 vs _ = true from h)
  obtain ⟨b, off, len, esz, cap, rfl, h2⟩ := asSl_true h1
  obtain ⟨ky, i, rfl, h3⟩ := asI_true h2
  obtain ⟨ku, j, rfl, h4⟩ := asI_true h3
  obtain ⟨i, rfl, h5⟩ := asNat_true h4
  obtain ⟨j, rfl, h6⟩ := asNat_true h5
  obtain ⟨h7, h8⟩ := andK_true h6
  obtain ⟨h9, h10⟩ := andK_true h8
  obtain ⟨h11, h12⟩ := andK_true h10
  obtain ⟨h13, h14⟩ := andK_true h12
  obtain ⟨h15, h16⟩ := andK_true h14
  obtain rfl := beq_true h7
  obtain rfl := beq_true h9
  obtain rfl := beq_true h11
  have hij := blt_true h13
  have hjn := ble_true h15
  rw [fNat_eq, fNat_eq, fNat_eq, fNat_eq, fNat_eq] at h16
  obtain ⟨us, h17, _, hus⟩ := rowK_true (P := Go.Proofs.Tryz.prog) h16
  obtain ⟨H1, h18, ho1⟩ := overK_true (P := Go.Proofs.Tryz.prog) h17
  have h19 := repK_true h18
  obtain ⟨H2, h20, ho2⟩ := overK_true (P := Go.Proofs.Tryz.prog) h19
  refine ⟨_, H2, h20, fun ι w args hv hH => ⟨callFunc_enter (by decide +kernel) args w, ?_⟩⟩
  obtain ⟨a, bb, cc, e1, ha, hb, hc⟩ := RL3 hv
  obtain ⟨q, c, hq, rfl, hlc, hroom, _⟩ := ha
  have hb : bb = .int .i64 (i : Int) := hb
  have hc : cc = .int .i64 (j : Int) := hc
  subst hb hc
  have e1 : args = #[.slice (some ⟨q.block, q.base + off, none⟩) len c, .int .i64 (i : Int), .int .i64 (j : Int)] := Array.ext' e1
  rw [e1]
  have hroom : off + c * 96 ≤ q.room := hroom
  obtain ⟨vs, hl, hR⟩ := hus ι w.drew (.slice (some ⟨q.block, q.base + (off + j * 96), none⟩) (len - j) (c - j)) hH.drew ⟨q, c - j, hq, rfl, Nat.sub_le_sub_right hlc j, by
    show off + j * 96 + (c - j) * 96 ≤ q.room
    omega, fun k e => by cases e⟩
  obtain ⟨w1, hs1, hE1, hH1⟩ := ho1 ι w.drew q vs.toList hH.drew hq hR
  have hm := made_R (hzR ι) (j - i)
  obtain ⟨w2, hs2, hE2, hH2⟩ := ho2 ι w1 q (madeCells z.cells ((j - i) * z.cells.size)).toList hH1 hq hm
  have a1 : q.base + off + j * 96 = q.base + (off + j * 96) := Nat.add_assoc ..
  have a2 : q.base + off + i * 96 = q.base + (off + i * 96) := Nat.add_assoc ..
  have a3 : q.base + off + (i + (len - j)) * 96 = q.base + (off + (i + (len - j)) * 96) := Nat.add_assoc ..
  have a4 : len - (i + (len - j)) = j - i := by omega
  refine Calls.mono (del_walk q.block (q.base + off) len c i j w w1 w2 hij hjn hlc vs hti hz (by rw [a1]; exact hl) (by rw [a2]; exact hs1) (by rw [a3, a4]; exact hs2)) fun e' w' he => ?_
  obtain ⟨rfl, rfl⟩ := he
  exact ⟨_, rfl, ι, (Ext.drew.trans hE1).trans hE2, hH2, q, c, hq, rfl, (by show i + (len - j) ≤ c; omega), hroom, fun k e => by cases e⟩
/-- 'string([]byte{x, y})' -/
theorem str2 (W : World) (z1 z2 : Int) (x y : UInt8) (h1 : z1 = (x.toNat : Int)) (h2 : z2 = (y.toNat : Int)) : (convert 57 9 (.slice (some ⟨W.heap.size, 0, none⟩) 2 2)).run Go.Proofs.Tryz.prog (W.alloc (.cells #[.int .u8 z1, .int .u8 z2] 5)) = .ok (S [x, y]) (W.alloc (.cells #[.int .u8 z1, .int .u8 z2] 5)) := by
  subst h1 h2
  have hm := Whole.made W 5 #[.int .u8 (x.toNat : Int), .int .u8 (y.toNat : Int)]
  refine run_convert_bytes_back _ 57 9 5 _ 2 [x, y] Tryz.underlying57 Tryz.underlying5 Tryz.underlying9 fun j hj => ?_
  have hj : j < 2 := hj
  rcases (by omega : j = 0 ∨ j = 1) with rfl | rfl
  · exact hm.cell 0
  · exact hm.cell 1
set_option maxHeartbeats 1000000 in
set_option maxRecDepth 100000 in
theorem two_walk [Sig] (n : Nat) (hn : n ≤ 4294967296) (w : World) : Calls Go.Proofs.Tryz.prog 157 #[.int .i64 (n : Int)] w fun e w' => e = .returned (S [UInt8.ofNat (n % 256), UInt8.ofNat (n / 256 % 256)]) ∧ Below w.heap.size w w' := by
  have m0 : wrap64 ((n : Int) / 256) = (n : Int) / 256 := IntWalk.wrap64_in _ (by omega)
  have m1 : ((n : Int) / 256).tmod 256 = (n : Int) / 256 % 256 := Int.tmod_eq_emod_of_nonneg (by omega)
  go_enter Tryz.func157, Tryz.ntmps157
  go_wp2
  rw [str2 w _ _ (UInt8.ofNat (n % 256)) (UInt8.ofNat (n / 256 % 256)) (by rw [UInt8.toNat_ofNat']; omega) (by rw [UInt8.toNat_ofNat']; omega)]
  have HB := Lib.hid ((Below.refl w.heap.size w).alloc (Nat.le_refl _) (.cells #[.int .u8 ((n : Int) % 256), .int .u8 ((n : Int) / 256 % 256 % 256)] 5))
  simp only [Result.andThen]
  rw [Oper.upon_value]
  go_wp2
  go_ret
  refine ⟨rfl, ?_⟩
  first | exact HB.out | exact (Below.refl w.heap.size w).alloc (Nat.le_refl _) _
theorem irTwo_sound [Sig] : IrSound Go.Proofs.Tryz.prog 157 irTwo := by
  intro vs H k h
  obtain ⟨y, rfl, h1⟩ := arg1_true (show arg1 vs _ = true from h)
  obtain ⟨kc, c, rfl, h2⟩ := asI_true h1
  obtain ⟨n, rfl, h3⟩ := asNat_true h2
  obtain ⟨h4, h5⟩ := andK_true h3
  obtain ⟨h6, h7⟩ := andK_true h5
  obtain rfl := beq_true h4
  have hn := ble_true h6
  rw [fNat_eq] at h7
  refine ⟨_, H, h7, fun ι w args hv hH => ⟨callFunc_enter (by decide +kernel) args w, ?_⟩⟩
  obtain ⟨v, e1, hv1⟩ := RL1 hv
  have hv1 : v = .int .i64 (Int.ofNat n) := hv1
  subst hv1
  have e1 : args = #[.int .i64 (n : Int)] := Array.ext' e1
  rw [e1]
  refine Calls.mono (two_walk n hn w) fun e w' he => ?_
  obtain ⟨rfl, hB⟩ := he
  obtain ⟨r1, r2⟩ := hH.below hB
  have a1 : (n % 256 + 65536 * (n / 256 % 256)) % 65536 = n % 256 := by omega
  have a2 : (n % 256 + 65536 * (n / 256 % 256)) / 65536 % 65536 = n / 256 % 256 := by omega
  refine ⟨_, rfl, ι, r2, r1, _, rfl, ?_, ?_⟩
  · show [UInt8.ofNat (n % 256), UInt8.ofNat (n / 256 % 256)] = [dgt ((n % 256 + 65536 * (n / 256 % 256)) % 65536), dgt ((n % 256 + 65536 * (n / 256 % 256)) / 65536 % 65536)]
    rw [a1, a2, dgt_lt (Nat.mod_lt _ (by decide)), dgt_lt (Nat.mod_lt _ (by decide))]
  · show n % 256 + 65536 * (n / 256 % 256) < 65536 ^ 2
    omega
theorem irTwo_still : IrStill irTwo := fun _ _ _ => rfl
end Go.Proofs.YtmdciljpcnokcaaGreatDoor.Ex
