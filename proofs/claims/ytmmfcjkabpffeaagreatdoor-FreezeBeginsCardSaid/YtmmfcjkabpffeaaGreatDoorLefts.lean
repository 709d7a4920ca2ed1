/-
  Walks: freeze.Left, hibernacleref34.left, Left; hibernaclelaw34.Great.
-/
import Derived.Test.YtmmfcjkabpffeaaGreatDoorWentA
namespace Go.Proofs.YtmmfcjkabpffeaaGreatDoor
open Go.RowKit

theorem leftL_take_le (l : List Kp) (k : Nat) : leftL (l.take k) ≤ k := by
  have := leftL_le (l.take k)
  rw [List.length_take] at this
  omega
set_option maxRecDepth 100000 in
set_option maxHeartbeats 1000000 in
theorem rleft_any (w : World) (A : Option Addr) (c : Nat) (l : List Kp) (hA : Kps w w.heap.size A l) (hl : l.length ≤ 1099511627776) :
    Calls Tryz.prog 39 #[.slice A l.length c] w fun e w' => e = .returned (.int .i64 (leftL l)) ∧ w' = w := by
  have HA := Lib.hid hA
  clear hA
  go_enter Tryz.func39, Tryz.ntmps39
  go_wp2_with fail
  go_loop [3, 4] (fun n i => ∃ k : Nat, k ≤ l.length ∧ i = .int .i64 k ∧ n = .int .i64 (leftL (l.take k))) (fun _ i => l.length - (intOf i).toNat)
  case atStart => exact ⟨0, Nat.zero_le _, rfl, rfl⟩
  case round =>
    obtain ⟨k, hk, rfl, rfl⟩ := hrel
    have hb := leftL_take_le l k
    by_cases hlt : k < l.length
    · obtain ⟨ad, rfl, had, c0, c1⟩ := HA.out.at' hlt
      have HS := Lib.hid (leftL_snoc hlt)
      have i0 : (0 : Int) ≤ (k : Int) := by omega
      have i1 : (k : Int) < (l.length : Int) := by omega
      generalize l.getD k (false, []) = p at *
      obtain ⟨b, y⟩ := p
      cases b with
      | true =>
        dsimp only at c0
        have HS' : Hid (leftL (l.take (k + 1)) = leftL (l.take k)) := HS
        clear c1 HS
        go_wp2_with fail
        go_round
        case rel => exact ⟨k + 1, by omega, by go_num, by rw [HS'.out]⟩
        case measure => simp [intOf]; omega
      | false =>
        dsimp only at c0
        have HS' : Hid (leftL (l.take (k + 1)) = leftL (l.take k) + 1) := HS
        clear c1 HS
        go_wp2_with fail
        go_round
        case rel => exact ⟨k + 1, by omega, by go_num, by rw [HS'.out]; go_num⟩
        case measure => simp [intOf]; omega
    · obtain rfl : k = l.length := by omega
      have hd : decide (l.length < l.length) = false := by simp
      rw [List.take_of_length_le (Nat.le_refl _)]
      go_wp2_with fail
      go_ret
      exact ⟨rfl, rfl⟩
set_option maxRecDepth 100000 in
set_option maxHeartbeats 1000000 in
theorem rleftS_any (w : World) (A A' : Option Addr) (c c' : Nat) (ck : Int) (fl bl : List Kp) (r : List UInt8) (hA : Kps w w.heap.size A fl) (hA' : Kps w w.heap.size A' bl) (h1 : fl.length ≤ 1099511627776) (h2 : bl.length ≤ 1099511627776) :
    Calls Tryz.prog 20 #[.agg #[.int .u64 ck, .slice A fl.length c, .slice A' bl.length c', S r]] w fun e w' => e = .returned (.int .i64 ((leftL fl + leftL bl : Nat) : Int)) ∧ Below w.heap.size w w' := by
  have hs := Whole.made w 43 #[.int .u64 ck, .slice A fl.length c, .slice A' bl.length c', S r]
  have hb := (Below.refl w.heap.size w).alloc (Nat.le_refl _) (.cells #[.int .u64 ck, .slice A fl.length c, .slice A' bl.length c', S r] 43)
  have HA := Lib.hid (Lies.block' hA (.cells #[.int .u64 ck, .slice A fl.length c, .slice A' bl.length c', S r] 43))
  have HA' := Lib.hid (Lies.block' hA' (.cells #[.int .u64 ck, .slice A fl.length c, .slice A' bl.length c', S r] 43))
  have b1 := leftL_le fl
  have b2 := leftL_le bl
  clear hA hA'
  go_enter Tryz.func20, Tryz.ntmps20
  go_upto_region 1 with (fail)
  change Code.wp _ _ _ _ (w.alloc (.cells #[.int .u64 ck, .slice A fl.length c, .slice A' bl.length c', S r] 43))
  generalize w.alloc (.cells #[.int .u64 ck, .slice A fl.length c, .slice A' bl.length c', S r] 43) = w1 at *
  generalize hgx : w.heap.size = gx at *
  have HGX := Lib.hid hgx
  clear hgx
  have s1 : w1.cell? ⟨gx, 1, none⟩ = some (.slice A fl.length c) := hs.cell 1
  have s2 : w1.cell? ⟨gx, 2, none⟩ = some (.slice A' bl.length c') := hs.cell 2
  have HB := Lib.hid hb
  have HL1 : Hid (∀ n, Calls Tryz.prog 39 #[.slice A fl.length c] (w1.drewN n) fun e w' => e = .returned (.int .i64 (leftL fl)) ∧ w' = w1.drewN n) := Lib.hid fun n => rleft_any (w1.drewN n) A c fl HA.out h1
  have HL2 : Hid (∀ n, Calls Tryz.prog 39 #[.slice A' bl.length c'] (w1.drewN n) fun e w' => e = .returned (.int .i64 (leftL bl)) ∧ w' = w1.drewN n) := Lib.hid fun n => rleft_any (w1.drewN n) A' c' bl HA'.out h2
  clear hs hb
  obtain ⟨n1, HN1⟩ : ∃ z, Hid (leftL fl = z) := ⟨_, Lib.hid rfl⟩
  obtain ⟨n2, HN2⟩ : ∃ z, Hid (leftL bl = z) := ⟨_, Lib.hid rfl⟩
  rw [HN1.out] at HL1 b1
  rw [HN2.out] at HL2 b2
  go_quiet ((first
    | (go_at_call_of 39 (Value.slice A fl.length c); exact Calls.quiet_of_same (HL1.out _))
    | (go_at_call_of 39 (Value.slice A' bl.length c'); exact Calls.quiet_of_same (HL2.out _))))
  go_wp2_with fail
  go_ret
  exact ⟨ret_int (by rw [HN1.out, HN2.out]; simp), by rw [HGX.out]; exact Below.draws HB.out _⟩
set_option maxRecDepth 100000 in
set_option maxHeartbeats 2000000 in
theorem left_any (w : World) (A A' : Option Addr) (c c' : Nat) (ck : Int) (fl bl : List Kp) (r : List UInt8) (hA : Kps w w.heap.size A fl) (hA' : Kps w w.heap.size A' bl) (h1 : fl.length ≤ 1099511627776) (h2 : bl.length ≤ 1099511627776) :
    Calls Tryz.prog 19 #[.agg #[.int .u64 ck, .slice A fl.length c, .slice A' bl.length c', S r]] w fun e w' => e = .returned (.int .i64 ((leftL fl + leftL bl : Nat) : Int)) ∧ Below w.heap.size w w' := by
  have HB := Lib.hid hA
  have HB' := Lib.hid hA'
  have hx := Whole.made w 43 #[.int .u64 ck, .slice A fl.length c, .slice A' bl.length c', S r]
  have x1 : (w.alloc (.cells #[.int .u64 ck, .slice A fl.length c, .slice A' bl.length c', S r] 43)).cell? ⟨w.heap.size, 1, none⟩ = some (Value.slice A fl.length c) := hx.cell 1
  have x2 : (w.alloc (.cells #[.int .u64 ck, .slice A fl.length c, .slice A' bl.length c', S r] 43)).cell? ⟨w.heap.size, 2, none⟩ = some (Value.slice A' bl.length c') := hx.cell 2
  have HW := Lib.hid ((Below.refl w.heap.size w).alloc (Nat.le_refl _) (.cells #[.int .u64 ck, .slice A fl.length c, .slice A' bl.length c', S r] 43))
  have b1 := leftL_le fl
  have b2 := leftL_le bl
  clear hA hA' hx
  go_enter Tryz.func19, Tryz.ntmps19
  go_wp2_with fail
  clear x1 x2
  have hy := Whole.made (w.alloc (.cells #[.int .u64 ck, .slice A fl.length c, .slice A' bl.length c', S r] 43)) 41 #[.slice A fl.length c, .slice A' bl.length c']
  have HW2 := Lib.hid (HW.out.alloc (by simp) (.cells #[.slice A fl.length c, .slice A' bl.length c'] 41))
  rw [show (w.alloc (.cells #[.int .u64 ck, .slice A fl.length c, .slice A' bl.length c', S r] 43)).heap.size = w.heap.size + 1 by simp] at hy
  generalize (w.alloc (.cells #[.int .u64 ck, .slice A fl.length c, .slice A' bl.length c', S r] 43)).alloc (.cells #[.slice A fl.length c, .slice A' bl.length c'] 41) = w1 at *
  have HY := Lib.hid hy
  clear hy HW
  obtain ⟨acc, HACC⟩ : ∃ acc : Nat → Nat, Hid (acc = fun k : Nat => (if 1 ≤ k then leftL fl else 0) + (if 2 ≤ k then leftL bl else 0)) := ⟨_, Lib.hid rfl⟩
  have HA0 : Hid (acc 0 = 0) := Lib.hid (by rw [HACC.out]; simp)
  have HA2 : Hid (acc 2 = leftL fl + leftL bl) := Lib.hid (by rw [HACC.out]; simp)
  have HAK : Hid (∀ k, k < 2 → ∃ Q q l, Kps w w.heap.size Q l ∧ l.length ≤ 1099511627776 ∧ acc (k + 1) = acc k + leftL l ∧ acc k + leftL l ≤ 4398046511104 ∧ (#[.slice A fl.length c, .slice A' bl.length c'] : Array Value)[k]? = some (Value.slice Q l.length q)) := Lib.hid (by
    intro k hk
    match k, hk with
    | 0, _ => exact ⟨A, c, fl, HB.out, h1, by rw [HACC.out]; simp, by rw [HACC.out]; simp; omega, rfl⟩
    | 1, _ => exact ⟨A', c', bl, HB'.out, h2, by rw [HACC.out]; simp, by rw [HACC.out]; simp; omega, rfl⟩)
  have hlw : w.heap.size + 1 < w1.heap.size := HY.out.lt
  go_loopw [3, 14] (fun n i wr => ∃ k : Nat, k ≤ 2 ∧ i = .int .i64 k ∧ n = .int .i64 (acc k) ∧ Hid (Below w1.heap.size w1 wr)) (fun _ i _ => 2 - (intOf i).toNat)
  case atStart => exact ⟨0, by omega, rfl, by rw [HA0.out]; rfl, Lib.hid (Below.refl _ _)⟩
  case round =>
    obtain ⟨k, hk, rfl, rfl, HBR⟩ := hrel
    by_cases hlt : k < 2
    · obtain ⟨Q, q, l, hQ, hll, hac, hle, hcell⟩ := HAK.out k hlt
      have hd : decide ((k : Int) < 2) = true := by simp; omega
      have hd' : decide (k < 2) = true := by simp; omega
      have hck : wr.cell? ⟨w.heap.size + 1, k, none⟩ = some (Value.slice Q l.length q) := (HBR.out.cell (by show w.heap.size + 1 < _; omega)).trans ((HY.out.cell k).trans hcell)
      have hck' : wr.cell? ((⟨w.heap.size + 1, 0, none⟩ : Addr).add k) = some (Value.slice Q l.length q) := by
        rw [show (⟨w.heap.size + 1, 0, none⟩ : Addr).add k = ⟨w.heap.size + 1, k, none⟩ by unfold Addr.add; split <;> simp_all]; exact hck
      have HQ := Lib.hid hQ
      have HAC := Lib.hid hac
      have i0 : (0 : Int) ≤ (k : Int) := by omega
      have i1 : (k : Int) < 2 := by omega
      clear hcell hQ hac
      go_wp2_with fail
      clear hd hd' hck hck' i0 i1
      go_loopw [3, 20] (fun n i wr => ∃ j : Nat, j ≤ l.length ∧ i = .int .i64 j ∧ n = .int .i64 (acc k + leftL (l.take j) : Nat) ∧ Hid (Below w1.heap.size w1 wr)) (fun _ i _ => l.length - (intOf i).toNat)
      case atStart => exact ⟨0, by omega, rfl, by simp [leftL], HBR⟩
      case round =>
        obtain ⟨j, hj, rfl, rfl, HBQ⟩ := hrel
        by_cases hlt2 : j < l.length
        · obtain ⟨bd, rfl, hbd, b0, b1'⟩ := HQ.out.at' hlt2
          have hbw := (HW2.out.trans (HBQ.out.mono (by omega)))
          have b0' := (hbw.cell (p := bd.add (j * 2)) (by rw [add_block]; exact hbd)).trans b0
          have b1'' := (hbw.cell (p := ⟨(bd.add (j * 2)).block, (bd.add (j * 2)).off + 1, none⟩) (by show (bd.add (j * 2)).block < _; rw [add_block]; exact hbd)).trans b1'
          have HSN := Lib.hid (leftL_snoc hlt2)
          have htl := leftL_take_le l j
          have hac1 : acc k ≤ 4398046511104 := by omega
          clear b0 b1' hbw
          generalize l.getD j (false, []) = p at *
          obtain ⟨n, y⟩ := p
          dsimp only at b0' b1''
          have j0 : (0 : Int) ≤ (j : Int) := by omega
          have j1 : (j : Int) < (l.length : Int) := by omega
          have HBN := Lib.hid (HBQ.out.alloc HBQ.out.size (.cells #[.bool n, S y] 83))
          cases n with
          | true =>
            have HS' : Hid (leftL (l.take (j + 1)) = leftL (l.take j)) := HSN
            clear HSN
            go_wp2_with fail
            go_roundw
            case rel => exact ⟨j + 1, by omega, by go_num, by rw [HS'.out], HBN⟩
            case measure => simp [intOf]; omega
          | false =>
            have HS' : Hid (leftL (l.take (j + 1)) = leftL (l.take j) + 1) := HSN
            clear HSN
            go_wp2_with fail
            go_roundw
            case rel => exact ⟨j + 1, by omega, by go_num, by rw [HS'.out]; go_num, HBN⟩
            case measure => simp [intOf]; omega
        · obtain rfl : j = l.length := by omega
          have hd : decide (l.length < l.length) = false := by simp
          rw [List.take_of_length_le (Nat.le_refl _)]
          go_wp2_with fail
          exact ⟨⟨k + 1, by omega, by go_num, by rw [HAC.out], HBQ⟩, by simp [intOf]; omega⟩
    · obtain rfl : k = 2 := by omega
      have hd : decide (((2 : Nat) : Int) < 2) = false := by simp
      rw [HA2.out]
      go_wp2_with fail
      go_ret
      exact ⟨rfl, HW2.out.trans (HBR.out.mono (by omega))⟩
/-- a machine's other lists: procs, pending and dirty writes -/
def IsM' (M : List Value) : Prop := ∃ P np cp Q nq cq D nd cd, M[5]? = some (.slice P np cp) ∧ M[14]? = some (.slice Q nq cq) ∧ M[16]? = some (.slice D nd cd)
def GreatPost (w : World) (fs bs : List (List UInt8)) (fl bl : List Kp) (e : Ending) (w' : World) : Prop :=
  (∃ g : Int, e = .returned (.int .i64 g) ∧ (g = 1 ∨ (g = 0 ∧ fs.length ≤ 70 ∧ bs.length ≤ 260 ∧ fl.length ≤ 70 ∧ bl.length ≤ 260))) ∧ Below w.heap.size w w'
set_option maxRecDepth 100000 in
set_option maxHeartbeats 2000000 in
theorem frgreat_any (w : World) (A A' : Option Addr) (c c' : Nat) (ck : Int) (fl bl : List Kp) (r : List UInt8) (B : Nat) (M : List Value) (fs bs : List (List UInt8)) (hM : IsM w B M fs bs) (hM' : IsM' M) :
    Calls Tryz.prog 15 #[.agg M.toArray, .agg #[.int .u64 ck, .slice A fl.length c, .slice A' bl.length c', S r]] w (GreatPost w fs bs fl bl) := by
  obtain ⟨hM17, _, F, cf, L, cl, hM4, hM13, _, _⟩ := hM
  obtain ⟨P, np, cp, Q, nq, cq, D, nd, cd, hM5, hM14, hM16⟩ := hM'
  have hl17 : M.toArray.size = 17 := by rw [List.size_toArray]; exact hM17
  have hm := (Whole.made w 30 M.toArray).block (.cells #[.int .u64 ck, .slice A fl.length c, .slice A' bl.length c', S r] 43)
  have hs := Whole.made (w.alloc (.cells M.toArray 30)) 43 #[.int .u64 ck, .slice A fl.length c, .slice A' bl.length c', S r]
  rw [show (w.alloc (.cells M.toArray 30)).heap.size = w.heap.size + 1 by simp] at hs
  have HB := Lib.hid (((Below.refl w.heap.size w).alloc (Nat.le_refl _) (.cells M.toArray 30)).alloc (by simp) (.cells #[.int .u64 ck, .slice A fl.length c, .slice A' bl.length c', S r] 43))
  go_enter Tryz.func15, Tryz.ntmps15
  go_upto_region 1 with (fail)
  change Code.wp _ _ _ _ ((w.alloc (.cells M.toArray 30)).alloc (.cells #[.int .u64 ck, .slice A fl.length c, .slice A' bl.length c', S r] 43))
  generalize (w.alloc (.cells M.toArray 30)).alloc (.cells #[.int .u64 ck, .slice A fl.length c, .slice A' bl.length c', S r] 43) = w1 at *
  have m4 : w1.cell? ⟨w.heap.size, 4, none⟩ = some (.slice F fs.length cf) := (hm.cell 4).trans (by rw [List.getElem?_toArray]; exact hM4)
  have m13 : w1.cell? ⟨w.heap.size, 13, none⟩ = some (.slice L bs.length cl) := (hm.cell 13).trans (by rw [List.getElem?_toArray]; exact hM13)
  have m5 : w1.cell? ⟨w.heap.size, 5, none⟩ = some (.slice P np cp) := (hm.cell 5).trans (by rw [List.getElem?_toArray]; exact hM5)
  have m14 : w1.cell? ⟨w.heap.size, 14, none⟩ = some (.slice Q nq cq) := (hm.cell 14).trans (by rw [List.getElem?_toArray]; exact hM14)
  have m16 : w1.cell? ⟨w.heap.size, 16, none⟩ = some (.slice D nd cd) := (hm.cell 16).trans (by rw [List.getElem?_toArray]; exact hM16)
  have s1 : w1.cell? ⟨w.heap.size + 1, 1, none⟩ = some (.slice A fl.length c) := hs.cell 1
  have s2 : w1.cell? ⟨w.heap.size + 1, 2, none⟩ = some (.slice A' bl.length c') := hs.cell 2
  clear hm hs hl17 hM17 hM4 hM13 hM5 hM14 hM16
  go_wp2_with fail
  all_goals
    go_ret
    refine ⟨⟨_, rfl, ?_⟩, HB.out⟩
    first | exact .inl rfl | (refine .inr ⟨rfl, ?_⟩; omega)
end Go.Proofs.YtmmfcjkabpffeaaGreatDoor
