/-
  A run of closed code by the kernel: the contracts of texts of zeros, of the geometry, of strings.IndexByte and of two bytes of a number are so.
-/
import Derived.Test.YtmdciljpcnokcaaGreatDoorEzF
import Derived.Test.YtmdciljpcnokcaaGreatDoorEzH
import Derived.Test.YtmdciljpcnokcaaGreatDoorYzgD
namespace Go.Proofs.YtmdciljpcnokcaaGreatDoor
open Go.RowKit
set_option maxRecDepth 100000 in
set_option maxHeartbeats 1000000 in
theorem zeros16_any (w : World) (n : Nat) (hn : n ≤ 1073741824) :
    Calls Tryz.prog 39 #[.int .i64 (n : Int)] w fun e w' => e = .returned (S (List.replicate n 0)) ∧ w' = w := by
  go_enter Tryz.func39, Tryz.ntmps39
  go_wp2_with fail
  go_loop [3, 4] (fun s i => ∃ k : Nat, k ≤ n ∧ i = .int .i64 (k : Int) ∧ s = S (List.replicate k 0)) (fun _ i => n - (intOf i).toNat)
  case atStart => exact ⟨0, by omega, rfl, rfl⟩
  case round =>
    obtain ⟨k, hk, rfl, rfl⟩ := hrel
    by_cases hlt : k < n
    · have d1 : decide ((k : Int) < (n : Int)) = true := decide_eq_true (by omega)
      have d1' : decide (k < n) = true := decide_eq_true hlt
      have hno : ¬ (9223372036854775807 < (List.replicate k (0 : UInt8)).length + [(0 : UInt8)].length) := by simp; omega
      have HS : Hid (List.replicate (k + 1) (0 : UInt8) = List.replicate k 0 ++ [0]) := Lib.hid List.replicate_succ'
      generalize List.replicate k (0 : UInt8) = s at *
      go_wp2_with fail
      go_round
      case rel => exact ⟨k + 1, by omega, by go_num, by rw [HS.out]; exact concat_S s [0]⟩
      case measure => simp [intOf]; omega
    · obtain rfl : k = n := by omega
      have d1 : decide ((k : Int) < (k : Int)) = false := by simp
      have d1' : decide (k < k) = false := by simp
      go_wp2_with fail
      go_ret
      exact ⟨rfl, rfl⟩
end Go.Proofs.YtmdciljpcnokcaaGreatDoor
namespace Go.Proofs.YtmdciljpcnokcaaGreatDoor.Ex
open Go.RowKit
theorem bytesOf_nil [Sig] : ∀ n, bytesOf n 0 = List.replicate n (0 : UInt8)
  | 0 => rfl
  | n + 1 => by
    have e : (0 : Nat) / 65536 = 0 := rfl
    simp only [bytesOf, e, bytesOf_nil n, List.replicate_succ]
    rfl
theorem irZ_gen [Sig] {f : Nat} (he : entersB Go.Proofs.Tryz.prog f = true) (hc : ∀ (w : World) (n : Nat), n ≤ 1073741824 → Calls Go.Proofs.Tryz.prog f #[.int .i64 (n : Int)] w fun e w' => e = .returned (S (List.replicate n 0)) ∧ w' = w) : IrSound Go.Proofs.Tryz.prog f irZ := by
  intro vs H k h
  obtain ⟨y, rfl, h1⟩ := arg1_true (show arg1 vs _ = true from h)
  obtain ⟨kc, c, rfl, h2⟩ := asI_true h1
  obtain ⟨c, rfl, h3⟩ := asNat_true h2
  obtain ⟨h4, h5⟩ := andK_true h3
  obtain ⟨h6, h7⟩ := andK_true h5
  obtain rfl := beq_true h4
  have hn := ble_true h6
  rw [fNat_eq] at h7
  refine ⟨_, H, h7, fun ι w args hv hH => ⟨callFunc_enter he args w, ?_⟩⟩
  obtain ⟨v, e1, hv1⟩ := RL1 hv
  have hv1 : v = .int .i64 (Int.ofNat c) := hv1
  subst hv1
  have e1 : args = #[.int .i64 (c : Int)] := Array.ext' e1
  rw [e1]
  refine Calls.mono (hc w c (by omega)) fun e w' he => ?_
  obtain ⟨rfl, rfl⟩ := he
  refine ⟨_, rfl, ι, Ext.refl _ _ _, hH, _, rfl, ?_, Nat.pow_pos (by decide)⟩
  rw [bytesOf_nil]
theorem irZ16_sound [Sig] : IrSound Go.Proofs.Tryz.prog 39 irZ := irZ_gen (by decide +kernel) zeros16_any
theorem irZ17_sound [Sig] : IrSound Go.Proofs.Tryz.prog 55 irZ := irZ_gen (by decide +kernel) zeros17_any
/-! ### A byte's place -/
theorem idxN_true [Sig] (c : Nat) (hc : c < 256) : ∀ (l s i : Nat) (k : Int → Bool), idxN c l s i k = true → k (if Lib.indexByte (bytesOf l s) (UInt8.ofNat c) = -1 then -1 else Lib.indexByte (bytesOf l s) (UInt8.ofNat c) + i) = true
  | 0, s, i, k, h => h
  | l + 1, s, i, k, h => by
    obtain ⟨h1, h2⟩ := andK_true (show andK (Nat.blt (Nat.mod s 65536) 256) (Bool.rec (idxN c l (Nat.div s 65536) (Nat.succ i) k) (fNat i fun i => k (Int.ofNat i)) (Nat.beq (Nat.mod s 65536) c)) = true from h)
    have h1 : s % 65536 < 256 := blt_true h1
    rw [fNat_eq] at h2
    have hge := Lib.indexByte_ge (bytesOf l (s / 65536)) (UInt8.ofNat c)
    have hb : (UInt8.ofNat (s % 65536) == UInt8.ofNat c) = Nat.beq (Nat.mod s 65536) c := by
      rw [Bool.eq_iff_iff, beq_iff_eq, Nat.beq_eq]
      constructor
      · intro e
        have := congrArg UInt8.toNat e
        simp only [UInt8.toNat_ofNat'] at this
        show s % 65536 = c
        omega
      · intro e
        have e : s % 65536 = c := e
        rw [e]
    simp only [bytesOf, Lib.indexByte, dgt_lt h1, hb]
    cases hq : Nat.beq (Nat.mod s 65536) c with
    | true => rw [hq] at h2; simpa using h2
    | false =>
      rw [hq] at h2
      have ih := idxN_true c hc l (s / 65536) (i + 1) k h2
      generalize Lib.indexByte (bytesOf l (s / 65536)) (UInt8.ofNat c) = z at hge ih ⊢
      by_cases e : z = -1
      · simpa [e] using ih
      · have e2 : ¬ z + 1 = -1 := by omega
        have e3 : z + 1 + (i : Int) = z + ((i + 1 : Nat) : Int) := by omega
        rw [if_neg e] at ih
        simp [e, e2, e3]
        simpa using ih
theorem irIdx_sound [Sig] : IrSound Go.Proofs.Tryz.prog 237 irIdx := by
  intro vs H k h
  obtain ⟨x, y, rfl, h1⟩ := arg2_true (show arg2 vs _ = true from h)
  obtain ⟨l, s, rfl, h2⟩ := asStr_true h1
  obtain ⟨kc, c, rfl, h3⟩ := asI_true h2
  obtain ⟨c, rfl, h4⟩ := asNat_true h3
  obtain ⟨h5, h6⟩ := andK_true h4
  obtain ⟨h7, h8⟩ := andK_true h6
  obtain rfl := beq_true h5
  have hc := blt_true h7
  have h8 := idxN_true c hc _ _ _ _ h8
  refine ⟨_, H, h8, fun ι w args hv hH => ⟨callFunc_enter (by decide +kernel) args w, ?_⟩⟩
  obtain ⟨a, b, e1, ha, hb⟩ := RL2 hv
  obtain ⟨bs, rfl, hbs⟩ := ha
  have hb : b = .int .u8 (Int.ofNat c) := hb
  subst hb
  have e1 : args = #[.string bs, .int .u8 (c : Int)] := by
    apply Array.ext'
    exact e1
  rw [e1]
  refine Calls.mono (Tryz.strings_IndexByte bs (c : Int) w) fun e w' he => ?_
  obtain ⟨rfl, rfl⟩ := he
  refine ⟨_, rfl, ι, Ext.refl _ _ _, hH, ?_⟩
  show _ = Value.int .i64 _
  have hu : (c : Int).toNat.toUInt8 = UInt8.ofNat c := rfl
  rw [hbs.1, hu]
  by_cases e : Lib.indexByte (bytesOf l s) (UInt8.ofNat c) = -1
  · rw [e]; rfl
  · rw [if_neg e]; simp
/-! ### The geometry -/
theorem blksK_true [Sig] : ∀ {l : List Sc} {k : Bool → List Nat → Bool}, blksK l k = true → ∃ ls : List (Nat × Nat), l = ls.map (fun p => .str p.1 p.2) ∧ k (ls.all fun p => Nat.beq p.1 128) (ls.map (·.2)) = true
  | [], k, h => ⟨[], rfl, h⟩
  | x :: l, k, h => by
    cases x with
    | str n s =>
      have h : (blksK l fun b ss => fBool (Bool.rec false b (Nat.beq n 128)) fun b' => k b' (s :: ss)) = true := h
      obtain ⟨ls, h1, h2⟩ := blksK_true h
      rw [fBool_eq] at h2
      refine ⟨(n, s) :: ls, by rw [h1]; rfl, ?_⟩
      simp only [List.all_cons, List.map_cons]
      cases hb : Nat.beq n 128 with
      | true => rw [hb] at h2; simpa using h2
      | false => rw [hb] at h2; simpa using h2
    | _ => cases h
theorem geoV_R [Sig] (ι : Inj) : ∀ zs : List Int, RL (CR ι) (zs.map fun z => Sc.int 3 z) (geoV zs)
  | [] => trivial
  | _ :: zs => ⟨⟨rfl, rfl⟩, geoV_R ι zs⟩
theorem irGeom_gen [Sig] {f : Nat} (he : entersB Go.Proofs.Tryz.prog f = true) (hc : ∀ (w : World) (A : Option Addr) (c : Nat) (v : List (List UInt8)), Strs w w.heap.size A v → v.length ≤ 274877906944 →
    Calls Go.Proofs.Tryz.prog f #[.slice A v.length c] w fun e w' => e = .returned (.tuple #[.agg (geoV (geomL v)).toArray, .int .i64 (geomE v)]) ∧ Below w.heap.size w w') : IrSound Go.Proofs.Tryz.prog f irGeom := by
  intro vs H k h
  obtain ⟨x, rfl, h1⟩ := arg1_true (show arg1 vs _ = true from h)
  obtain ⟨b, off, n, esz, cap, rfl, h2⟩ := asSl_true h1
  obtain ⟨h3, h4⟩ := andK_true h2
  obtain ⟨h5, h6⟩ := andK_true h4
  obtain rfl := beq_true h3
  have hn := ble_true h5
  obtain ⟨_, h7⟩ := andK_true (show andK (Nat.ble n n) (H.t.getK b fun o => asCells o fun l _ _ => dropL l off fun l' => takeL l' (Nat.mul n 1) _) = true from h6)
  obtain ⟨o, ho, h8⟩ := Tr.getK_true h7
  obtain ⟨l, fz, et, rfl, h9⟩ := asCells_true h8
  obtain ⟨h10, h11⟩ := dropL_true h9
  obtain ⟨h12, h13⟩ := takeL_true h11
  obtain ⟨ls, h14, h15⟩ := blksK_true h13
  have h14 : (l.drop off).take n = ls.map (fun p => .str p.1 p.2) := by rw [← h14]; show _ = (l.drop off).take (n * 1); rw [Nat.mul_one]
  have h12 : n * 1 ≤ (l.drop off).length := h12
  have hlen : ls.length = n := by
    have := congrArg List.length h14
    simp only [List.length_take, List.length_map] at this
    omega
  have hel : ∀ i p, ls[i]? = some p → l[off + i]? = some (.str p.1 p.2) := by
    intro i p hp
    have hi : i < n := by rw [← hlen]; exact (List.getElem?_eq_some_iff.1 hp).1
    have := congrArg (fun z => z[i]?) h14
    simp only [List.getElem?_map, hp, Option.map_some] at this
    rw [List.getElem?_take, if_pos (by omega), List.getElem?_drop] at this
    exact this
  have out : k (geoOut (ls.map fun p => bytesOf p.1 p.2)) H = true := by
    rcases ifK_true h15 with ⟨c1, h15⟩ | ⟨c1, h15⟩
    · have hall : ∀ p ∈ ls, p.1 = 128 := fun p hp => beq_true (List.all_eq_true.1 c1 p hp)
      have ha : (ls.map fun p => bytesOf p.1 p.2).all is128 = true := by
        rw [List.all_eq_true]
        intro q hq
        obtain ⟨p, hp, rfl⟩ := List.mem_map.1 hq
        unfold is128
        rw [bytesOf_length, hall p hp]
        rfl
      rcases ifK_true h15 with ⟨c2, h15⟩ | ⟨c2, h15⟩
      · obtain ⟨t0, g0, h16⟩ := nthN_true h15
        obtain ⟨t2, g2, h17⟩ := nthN_true h16
        obtain ⟨s0, h18, p0, q0⟩ := packK_true h17
        obtain ⟨s2, h19, p2, q2⟩ := packK_true h18
        have at_ : ∀ i t, (ls.map (·.2))[i]? = some t → (ls.map fun p => bytesOf p.1 p.2).getD i [] = bytesOf 128 t := by
          intro i t hi
          rw [List.getElem?_map] at hi
          cases hp : ls[i]? with
          | none => rw [hp] at hi; cases hi
          | some p =>
            rw [hp] at hi
            cases hi
            rw [List.getD_eq_getElem?_getD, List.getElem?_map, hp]
            show bytesOf p.1 p.2 = _
            rw [hall p (List.mem_of_getElem? hp)]
        exact geomK_true (by simp [hlen]) ha (by simp [hlen]; exact ble_true c2) ((at_ 0 t0 g0).trans p0) ((at_ 2 t2 g2).trans p2) q0 q2 h19
      · refine geomBad_out ?_ h15
        have : ¬ 16 ≤ n := fun e => by rw [Nat.ble_eq_true_of_le e] at c2; cases c2
        have hl : (ls.map fun p => bytesOf p.1 p.2).length = n := by simp [hlen]
        unfold geomB
        rw [hl, decide_eq_false this]
        simp
    · refine geomBad_out ?_ h15
      unfold geomB
      have : (ls.map fun p => bytesOf p.1 p.2).all is128 = false := by
        rw [← Bool.not_eq_true, List.all_eq_true]
        intro hh
        have : (ls.all fun p => Nat.beq p.1 128) = true := List.all_eq_true.2 fun p hp => by
          have := hh _ (List.mem_map.2 ⟨p, hp, rfl⟩)
          unfold is128 at this
          rw [bytesOf_length] at this
          simpa using this
        rw [this] at c1
        cases c1
      rw [this]
      simp
  · refine ⟨_, H, out, fun ι w args hv hH => ⟨callFunc_enter he args w, ?_⟩⟩
    obtain ⟨v, e1, y, c, hy, rfl, hnc, _, _⟩ := RL1 hv
    have e1 : args = #[.slice (some ⟨y.block, y.base + off, none⟩) n c] := Array.ext' e1
    obtain ⟨y', cs, e, f, g1, g2, g3, g4, g5, g6⟩ := hH.obj _ _ ho
    rw [hy] at g1
    cases g1
    have hS : Strs w w.heap.size (some ⟨y.block, y.base + off, none⟩) (ls.map fun p => bytesOf p.1 p.2) := by
      intro i u hu
      simp only [List.getElem?_map, List.map_map] at hu
      cases hp : ls[i]? with
      | none => rw [hp] at hu; cases hu
      | some p =>
        rw [hp] at hu
        cases hu
        refine ⟨_, rfl, hH.lt b y hy, ?_⟩
        obtain ⟨v, q1, q2⟩ := g5 (off + i) _ (hel i p hp)
        obtain ⟨s, rfl, hs⟩ := q2.1
        rw [Addr.add_lit, cell_at g2, Nat.add_assoc, q1]
        show some (Value.string s) = some (S (bytesOf p.1 p.2))
        rw [← hs.1]
    rw [e1, ← hlen, ← List.length_map (f := fun p : Nat × Nat => bytesOf p.1 p.2)]
    refine Calls.mono (hc w _ c _ hS (by simp [hlen]; omega)) fun e' w' he => ?_
    obtain ⟨rfl, hB⟩ := he
    obtain ⟨r1, r2⟩ := hH.below hB
    refine ⟨_, rfl, ι, r2, r1, _, rfl, ?_⟩
    exact ⟨⟨_, rfl, geoV_R ι _⟩, rfl, trivial⟩
theorem irGeom_sound [Sig] : IrSound Go.Proofs.Tryz.prog 241 irGeom := irGeom_gen (by decide +kernel) fun w A c v h1 h2 => geomOf_any w A c v h1 h2
theorem irGeom17_sound [Sig] : IrSound Go.Proofs.Tryz.prog 57 irGeom := irGeom_gen (by decide +kernel) fun w A c v h1 h2 => rgeomOf_any w A c v h1 h2
end Go.Proofs.YtmdciljpcnokcaaGreatDoor.Ex
