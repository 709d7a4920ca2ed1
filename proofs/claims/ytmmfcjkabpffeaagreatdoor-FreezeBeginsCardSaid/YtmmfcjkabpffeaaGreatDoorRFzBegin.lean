/-
  Walk: hibernacleref34.Begin, over any contract of hibernacleref32.Of. (Made of freeze.Begin by mk_zd.py.)
-/
import Derived.Test.YtmmfcjkabpffeaaGreatDoorFzBeginZ
namespace Go.Proofs.YtmmfcjkabpffeaaGreatDoor
open Go.RowKit

/-- what holds while Begin's region runs -/
def RFzJ (w0 w1 : World) (gx : Nat) (v1 v2 v3 v5 v6 v7 v8 v9 v10 v11 v12 v14 v15 v16 : Value) (F L : Option Addr) (cf cl : Nat) (fs bs : List (List UInt8)) (r : List UInt8) (ck : Int) (Ls : Nat → Bool) (a : Act) (W : World) : Prop :=
  ∃ u3 u4 u5 u6 u7 u8 u9 u10 u11 u12 u13 u14 u15 u16 u17 g1 g2 J n j J' n' j', a = ⟨#[.agg #[(.int .u64 ck), v1, v2, v3, (.slice F fs.length cf), v5, v6, v7, v8, v9, v10, v11, v12, (.slice L bs.length cl), v14, v15, v16], .pointer (some ⟨gx, 0, none⟩), .pointer (some ⟨gx + 1, 0, none⟩), u3, u4, u5, u6, u7, u8, u9, u10, u11, u12, u13, u14, u15, u16, u17], []⟩ ∧ Below gx w0 W ∧ w1.heap.size ≤ W.heap.size ∧ Whole W gx 30 #[(.int .u64 ck), v1, v2, v3, (.slice F fs.length cf), v5, v6, v7, v8, v9, v10, v11, v12, (.slice L bs.length cl), v14, v15, v16] ∧ (Ls 15 = false → Whole W (gx + 1) 43 #[.int .u64 0, .slice none 0 0, .slice none 0 0, S []]) ∧ (Ls 15 = true → Whole W (gx + 1) 43 #[.int .u64 ck, .slice (some ⟨g1, 0, none⟩) fs.length fs.length, .slice (some ⟨g2, 0, none⟩) bs.length bs.length, S r]) ∧ (Ls 15 = true → ∀ j, j < 15 → Ls j = true) ∧ (Ls 0 = true → u3 = .pointer (some ⟨gx, 0, none⟩)) ∧ (Ls 1 = true → u4 = .int .u64 ck) ∧ (Ls 2 = true → u5 = .pointer (some ⟨gx, 4, none⟩)) ∧ (Ls 3 = true → u6 = .slice F fs.length cf) ∧ (Ls 4 = true → u7 = .int .i64 fs.length) ∧ (Ls 5 = true → u8 = .slice (some ⟨g1, 0, none⟩) fs.length fs.length ∧ Kps W W.heap.size (some ⟨g1, 0, none⟩) (zerosK fs.length) ∧ w1.heap.size ≤ g1) ∧ (Ls 6 = true → u9 = .pointer (some ⟨gx, 13, none⟩)) ∧ (Ls 7 = true → u10 = .pointer (some ⟨gx, 13, none⟩)) ∧ (Ls 8 = true → u11 = .slice L bs.length cl) ∧ (Ls 9 = true → u12 = .int .i64 bs.length) ∧ (Ls 10 = true → u13 = .slice (some ⟨g2, 0, none⟩) bs.length bs.length ∧ Kps W W.heap.size (some ⟨g2, 0, none⟩) (zerosK bs.length) ∧ w1.heap.size ≤ g2) ∧ (Ls 11 = true → u14 = .agg #[(.int .u64 ck), v1, v2, v3, (.slice F fs.length cf), v5, v6, v7, v8, v9, v10, v11, v12, (.slice L bs.length cl), v14, v15, v16]) ∧ (Ls 12 = true → u15 = .agg #[.slice J n j, .slice J' n' j', S r]) ∧ (Ls 13 = true → u16 = S r) ∧ (Ls 14 = true → Ls 5 = true ∧ Ls 10 = true ∧ u17 = .agg #[.int .u64 ck, .slice (some ⟨g1, 0, none⟩) fs.length fs.length, .slice (some ⟨g2, 0, none⟩) bs.length bs.length, S r])
set_option maxRecDepth 100000 in
set_option maxHeartbeats 4000000 in
theorem rbegin_cells (w : World) (v1 v2 v3 v5 v6 v7 v8 v9 v10 v11 v12 v14 v15 v16 : Value) (F L : Option Addr) (cf cl : Nat) (fs bs : List (List UInt8)) (r : List UInt8) (ck : Int) (h1' : fs.length ≤ 274877906944) (h2' : bs.length ≤ 274877906944)
    (hI : ∀ W, Below w.heap.size w W → Calls Tryz.prog 38 #[.agg #[(.int .u64 ck), v1, v2, v3, (.slice F fs.length cf), v5, v6, v7, v8, v9, v10, v11, v12, (.slice L bs.length cl), v14, v15, v16]] W fun e w' => (∃ J n j J' n' j', e = .returned (.agg #[.slice J n j, .slice J' n' j', S r])) ∧ Below W.heap.size W w') :
    Calls Tryz.prog 18 #[.agg #[(.int .u64 ck), v1, v2, v3, (.slice F fs.length cf), v5, v6, v7, v8, v9, v10, v11, v12, (.slice L bs.length cl), v14, v15, v16]] w fun e w' => ShotPost w ck (zerosK fs.length) (zerosK bs.length) r e w' ∧ Below w.heap.size w w' := by
  have hm := (Whole.made w 30 #[(.int .u64 ck), v1, v2, v3, (.slice F fs.length cf), v5, v6, v7, v8, v9, v10, v11, v12, (.slice L bs.length cl), v14, v15, v16]).block (.cells #[.int .u64 0, .slice none 0 0, .slice none 0 0, S []] 43)
  have hr := Whole.made (w.alloc (.cells #[(.int .u64 ck), v1, v2, v3, (.slice F fs.length cf), v5, v6, v7, v8, v9, v10, v11, v12, (.slice L bs.length cl), v14, v15, v16] 30)) 43 #[.int .u64 0, .slice none 0 0, .slice none 0 0, S []]
  rw [show (w.alloc (.cells #[(.int .u64 ck), v1, v2, v3, (.slice F fs.length cf), v5, v6, v7, v8, v9, v10, v11, v12, (.slice L bs.length cl), v14, v15, v16] 30)).heap.size = w.heap.size + 1 by simp] at hr
  have hb : Below w.heap.size w ((w.alloc (.cells #[(.int .u64 ck), v1, v2, v3, (.slice F fs.length cf), v5, v6, v7, v8, v9, v10, v11, v12, (.slice L bs.length cl), v14, v15, v16] 30)).alloc (.cells #[.int .u64 0, .slice none 0 0, .slice none 0 0, S []] 43)) := ((Below.refl w.heap.size w).alloc (Nat.le_refl _) _).alloc (by simp) _
  have HI := Lib.hid hI
  clear hI
  go_enter Tryz.func18, Tryz.ntmps18
  go_upto_region 1 with (fail)
  change Code.wp _ _ _ _ ((w.alloc (.cells #[(.int .u64 ck), v1, v2, v3, (.slice F fs.length cf), v5, v6, v7, v8, v9, v10, v11, v12, (.slice L bs.length cl), v14, v15, v16] 30)).alloc (.cells #[.int .u64 0, .slice none 0 0, .slice none 0 0, S []] 43))
  generalize ((w.alloc (.cells #[(.int .u64 ck), v1, v2, v3, (.slice F fs.length cf), v5, v6, v7, v8, v9, v10, v11, v12, (.slice L bs.length cl), v14, v15, v16] 30)).alloc (.cells #[.int .u64 0, .slice none 0 0, .slice none 0 0, S []] 43)) = w1 at *
  generalize hgx : w.heap.size = gx at *
  have HGX := Lib.hid hgx
  clear hgx
  have hgl : gx + 1 < w1.heap.size := hr.lt
  refine wp_region_set (by kernel_rfl) (RFzJ w w1 gx v1 v2 v3 v5 v6 v7 v8 v9 v10 v11 v12 v14 v15 v16 F L cf cl fs bs r ck) (downOk_spec (by kernel_rfl)) ?init ?step ?fin
  case init =>
    unfold RFzJ
    refine ⟨_, _, _, _, _, _, _, _, _, _, _, _, _, _, _, 0, 0, none, 0, 0, none, 0, 0, rfl, hb.drew, Nat.le_refl _, hm.draw, fun _ => hr.draw, (fun h => by cases h), (fun h => by cases h), (fun h => by cases h), (fun h => by cases h), (fun h => by cases h), (fun h => by cases h), (fun h => by cases h), (fun h => by cases h), (fun h => by cases h), (fun h => by cases h), (fun h => by cases h), (fun h => by cases h), (fun h => by cases h), (fun h => by cases h), (fun h => by cases h), (fun h => by cases h), (fun h => by cases h)⟩
  case step =>
    intro i o ho Ls a W hLi hed hJ
    unfold RFzJ at hJ
    obtain ⟨u3, u4, u5, u6, u7, u8, u9, u10, u11, u12, u13, u14, u15, u16, u17, g1, g2, J, n, j, J', n', j', rfl, hB, hz, hM, hZ, hF, k15, h0, h1, h2, h3, h4, h5, h6, h7, h8, h9, h10, h11, h12, h13, h14⟩ := hJ
    match i, ho with
    | 0, ho =>
      have ho' := Option.some.inj ho
      subst ho'
      refine wpOp_of ho rfl ?_
      go_simp
      unfold RFzJ
      exact ⟨_, _, _, _, _, _, _, _, _, _, _, _, _, _, _, g1, g2, J, n, j, J', n', j', rfl, hB, hz, hM, hZ, hF, fun h j hj => also_of (k15 h j hj), fun _ => rfl, h1, h2, h3, h4, h5, h6, h7, h8, h9, h10, h11, h12, h13, fun h => ⟨also_of (h14 h).1, also_of (h14 h).2.1, (h14 h).2.2⟩⟩
    | 1, ho =>
      have ho' := Option.some.inj ho
      subst ho'
      refine wpOp_of ho rfl ?_
      have hn := needs_spec (l := [0]) (by kernel_rfl) hed
      obtain rfl := h0 (hn 0 (by simp))
      have c0 : W.cell? ⟨gx, 0, none⟩ = some (.int .u64 ck) := hM.cell 0
      go_simp
      unfold RFzJ
      exact ⟨_, _, _, _, _, _, _, _, _, _, _, _, _, _, _, g1, g2, J, n, j, J', n', j', rfl, hB, hz, hM, hZ, hF, fun h j hj => also_of (k15 h j hj), h0, fun _ => rfl, h2, h3, h4, h5, h6, h7, h8, h9, h10, h11, h12, h13, fun h => ⟨also_of (h14 h).1, also_of (h14 h).2.1, (h14 h).2.2⟩⟩
    | 2, ho =>
      have ho' := Option.some.inj ho
      subst ho'
      refine wpOp_of ho rfl ?_
      go_simp
      unfold RFzJ
      exact ⟨_, _, _, _, _, _, _, _, _, _, _, _, _, _, _, g1, g2, J, n, j, J', n', j', rfl, hB, hz, hM, hZ, hF, fun h j hj => also_of (k15 h j hj), h0, h1, fun _ => rfl, h3, h4, h5, h6, h7, h8, h9, h10, h11, h12, h13, fun h => ⟨also_of (h14 h).1, also_of (h14 h).2.1, (h14 h).2.2⟩⟩
    | 3, ho =>
      have ho' := Option.some.inj ho
      subst ho'
      refine wpOp_of ho rfl ?_
      have hn := needs_spec (l := [2]) (by kernel_rfl) hed
      obtain rfl := h2 (hn 2 (by simp))
      have c0 : W.cell? ⟨gx, 4, none⟩ = some (.slice F fs.length cf) := hM.cell 4
      go_simp
      unfold RFzJ
      exact ⟨_, _, _, _, _, _, _, _, _, _, _, _, _, _, _, g1, g2, J, n, j, J', n', j', rfl, hB, hz, hM, hZ, hF, fun h j hj => also_of (k15 h j hj), h0, h1, h2, fun _ => rfl, h4, h5, h6, h7, h8, h9, h10, h11, h12, h13, fun h => ⟨also_of (h14 h).1, also_of (h14 h).2.1, (h14 h).2.2⟩⟩
    | 4, ho =>
      have ho' := Option.some.inj ho
      subst ho'
      refine wpOp_of ho rfl ?_
      have hn := needs_spec (l := [3]) (by kernel_rfl) hed
      obtain rfl := h3 (hn 3 (by simp))
      go_simp
      unfold RFzJ
      exact ⟨_, _, _, _, _, _, _, _, _, _, _, _, _, _, _, g1, g2, J, n, j, J', n', j', rfl, hB, hz, hM, hZ, hF, fun h j hj => also_of (k15 h j hj), h0, h1, h2, h3, fun _ => rfl, h5, h6, h7, h8, h9, h10, h11, h12, h13, fun h => ⟨also_of (h14 h).1, also_of (h14 h).2.1, (h14 h).2.2⟩⟩
    | 5, ho =>
      have ho' := Option.some.inj ho
      subst ho'
      refine wpOp_of ho rfl ?_
      have hn := needs_spec (l := [4]) (by kernel_rfl) hed
      obtain rfl := h4 (hn 4 (by simp))
      have hmk := make_kept W fs.length (by omega)
      have l15 : Ls 15 = true → False := fun h => by have := k15 h 5 (by omega); rw [hLi] at this; cases this
      go_simp
      unfold RFzJ
      exact ⟨_, _, _, _, _, _, _, _, _, _, _, _, _, _, _, W.heap.size, g2, J, n, j, J', n', j', rfl, hB.alloc (by omega) _, by simp; omega, hM.block _, fun h => (hZ h).block _, fun h => (l15 h).elim, fun h => (l15 h).elim, h0, h1, h2, h3, h4, fun _ => ⟨rfl, lies_zk W _, hz⟩, h6, h7, h8, h9, fun h => ⟨(h10 h).1, Lies.block' (h10 h).2.1 _, (h10 h).2.2⟩, h11, h12, h13, (fun h => by have h' := (h14 h).1; rw [hLi] at h'; cases h')⟩
    | 6, ho =>
      have ho' := Option.some.inj ho
      subst ho'
      refine wpOp_of ho rfl ?_
      go_simp
      unfold RFzJ
      exact ⟨_, _, _, _, _, _, _, _, _, _, _, _, _, _, _, g1, g2, J, n, j, J', n', j', rfl, hB, hz, hM, hZ, hF, fun h j hj => also_of (k15 h j hj), h0, h1, h2, h3, h4, h5, fun _ => rfl, h7, h8, h9, h10, h11, h12, h13, fun h => ⟨also_of (h14 h).1, also_of (h14 h).2.1, (h14 h).2.2⟩⟩
    | 7, ho =>
      have ho' := Option.some.inj ho
      subst ho'
      refine wpOp_of ho rfl ?_
      have hn := needs_spec (l := [6]) (by kernel_rfl) hed
      obtain rfl := h6 (hn 6 (by simp))
      go_simp
      unfold RFzJ
      exact ⟨_, _, _, _, _, _, _, _, _, _, _, _, _, _, _, g1, g2, J, n, j, J', n', j', rfl, hB, hz, hM, hZ, hF, fun h j hj => also_of (k15 h j hj), h0, h1, h2, h3, h4, h5, h6, fun _ => rfl, h8, h9, h10, h11, h12, h13, fun h => ⟨also_of (h14 h).1, also_of (h14 h).2.1, (h14 h).2.2⟩⟩
    | 8, ho =>
      have ho' := Option.some.inj ho
      subst ho'
      refine wpOp_of ho rfl ?_
      have hn := needs_spec (l := [7]) (by kernel_rfl) hed
      obtain rfl := h7 (hn 7 (by simp))
      have c0 : W.cell? ⟨gx, 13, none⟩ = some (.slice L bs.length cl) := hM.cell 13
      go_simp
      unfold RFzJ
      exact ⟨_, _, _, _, _, _, _, _, _, _, _, _, _, _, _, g1, g2, J, n, j, J', n', j', rfl, hB, hz, hM, hZ, hF, fun h j hj => also_of (k15 h j hj), h0, h1, h2, h3, h4, h5, h6, h7, fun _ => rfl, h9, h10, h11, h12, h13, fun h => ⟨also_of (h14 h).1, also_of (h14 h).2.1, (h14 h).2.2⟩⟩
    | 9, ho =>
      have ho' := Option.some.inj ho
      subst ho'
      refine wpOp_of ho rfl ?_
      have hn := needs_spec (l := [8]) (by kernel_rfl) hed
      obtain rfl := h8 (hn 8 (by simp))
      go_simp
      unfold RFzJ
      exact ⟨_, _, _, _, _, _, _, _, _, _, _, _, _, _, _, g1, g2, J, n, j, J', n', j', rfl, hB, hz, hM, hZ, hF, fun h j hj => also_of (k15 h j hj), h0, h1, h2, h3, h4, h5, h6, h7, h8, fun _ => rfl, h10, h11, h12, h13, fun h => ⟨also_of (h14 h).1, also_of (h14 h).2.1, (h14 h).2.2⟩⟩
    | 10, ho =>
      have ho' := Option.some.inj ho
      subst ho'
      refine wpOp_of ho rfl ?_
      have hn := needs_spec (l := [9]) (by kernel_rfl) hed
      obtain rfl := h9 (hn 9 (by simp))
      have hmk := make_kept W bs.length (by omega)
      have l15 : Ls 15 = true → False := fun h => by have := k15 h 10 (by omega); rw [hLi] at this; cases this
      go_simp
      unfold RFzJ
      exact ⟨_, _, _, _, _, _, _, _, _, _, _, _, _, _, _, g1, W.heap.size, J, n, j, J', n', j', rfl, hB.alloc (by omega) _, by simp; omega, hM.block _, fun h => (hZ h).block _, fun h => (l15 h).elim, fun h => (l15 h).elim, h0, h1, h2, h3, h4, fun h => ⟨(h5 h).1, Lies.block' (h5 h).2.1 _, (h5 h).2.2⟩, h6, h7, h8, h9, fun _ => ⟨rfl, lies_zk W _, hz⟩, h11, h12, h13, (fun h => by have h' := (h14 h).2.1; rw [hLi] at h'; cases h')⟩
    | 11, ho =>
      have ho' := Option.some.inj ho
      subst ho'
      refine wpOp_of ho rfl ?_
      have c0 : W.cell? ⟨gx, 0, none⟩ = some (.int .u64 ck) := hM.cell 0
      have c1 : W.cell? ⟨gx, 1, none⟩ = some v1 := hM.cell 1
      have c2 : W.cell? ⟨gx, 2, none⟩ = some v2 := hM.cell 2
      have c3 : W.cell? ⟨gx, 3, none⟩ = some v3 := hM.cell 3
      have c4 : W.cell? ⟨gx, 4, none⟩ = some (.slice F fs.length cf) := hM.cell 4
      have c5 : W.cell? ⟨gx, 5, none⟩ = some v5 := hM.cell 5
      have c6 : W.cell? ⟨gx, 6, none⟩ = some v6 := hM.cell 6
      have c7 : W.cell? ⟨gx, 7, none⟩ = some v7 := hM.cell 7
      have c8 : W.cell? ⟨gx, 8, none⟩ = some v8 := hM.cell 8
      have c9 : W.cell? ⟨gx, 9, none⟩ = some v9 := hM.cell 9
      have c10 : W.cell? ⟨gx, 10, none⟩ = some v10 := hM.cell 10
      have c11 : W.cell? ⟨gx, 11, none⟩ = some v11 := hM.cell 11
      have c12 : W.cell? ⟨gx, 12, none⟩ = some v12 := hM.cell 12
      have c13 : W.cell? ⟨gx, 13, none⟩ = some (.slice L bs.length cl) := hM.cell 13
      have c14 : W.cell? ⟨gx, 14, none⟩ = some v14 := hM.cell 14
      have c15 : W.cell? ⟨gx, 15, none⟩ = some v15 := hM.cell 15
      have c16 : W.cell? ⟨gx, 16, none⟩ = some v16 := hM.cell 16
      go_simp
      unfold RFzJ
      exact ⟨_, _, _, _, _, _, _, _, _, _, _, _, _, _, _, g1, g2, J, n, j, J', n', j', rfl, hB, hz, hM, hZ, hF, fun h j hj => also_of (k15 h j hj), h0, h1, h2, h3, h4, h5, h6, h7, h8, h9, h10, fun _ => rfl, h12, h13, fun h => ⟨also_of (h14 h).1, also_of (h14 h).2.1, (h14 h).2.2⟩⟩
    | 12, ho =>
      have ho' := Option.some.inj ho
      subst ho'
      refine wpOp_of ho rfl ?_
      have hn := needs_spec (l := [11]) (by kernel_rfl) hed
      obtain rfl := h11 (hn 11 (by simp))
      have hc := HI.out W hB
      have l15 : Ls 15 = true → False := fun h => by have := k15 h 12 (by omega); rw [hLi] at this; cases this
      go_simp
      refine hc.mono fun e W2 he => ?_
      obtain ⟨⟨J, n, j, J', n', j', rfl⟩, hb2⟩ := he
      unfold RFzJ
      exact ⟨_, _, _, _, _, _, _, _, _, _, _, _, _, _, _, g1, g2, J, n, j, J', n', j', rfl, hB.trans (hb2.mono (by omega)), Nat.le_trans hz hb2.size, hM.below hb2 (by omega), fun h => (hZ h).below hb2 (by omega), fun h => (l15 h).elim, fun h => (l15 h).elim, h0, h1, h2, h3, h4, fun h => ⟨(h5 h).1, (Lies.below (h5 h).2.1 hb2).wide hb2.size, (h5 h).2.2⟩, h6, h7, h8, h9, fun h => ⟨(h10 h).1, (Lies.below (h10 h).2.1 hb2).wide hb2.size, (h10 h).2.2⟩, h11, fun _ => rfl, h13, fun h => ⟨also_of (h14 h).1, also_of (h14 h).2.1, (h14 h).2.2⟩⟩
    | 13, ho =>
      have ho' := Option.some.inj ho
      subst ho'
      refine wpOp_of ho rfl ?_
      have hn := needs_spec (l := [12]) (by kernel_rfl) hed
      obtain rfl := h12 (hn 12 (by simp))
      have hfr := field_rest W J J' n j n' j' r
      go_simp
      unfold RFzJ
      exact ⟨_, _, _, _, _, _, _, _, _, _, _, _, _, _, _, g1, g2, J, n, j, J', n', j', rfl, hB, hz, hM, hZ, hF, fun h j hj => also_of (k15 h j hj), h0, h1, h2, h3, h4, h5, h6, h7, h8, h9, h10, h11, h12, fun _ => rfl, fun h => ⟨also_of (h14 h).1, also_of (h14 h).2.1, (h14 h).2.2⟩⟩
    | 14, ho =>
      have ho' := Option.some.inj ho
      subst ho'
      refine wpOp_of ho rfl ?_
      have hn := needs_spec (l := [1, 5, 10, 13]) (by kernel_rfl) hed
      obtain rfl := h1 (hn 1 (by simp))
      obtain ⟨rfl, _, _⟩ := h5 (hn 5 (by simp))
      obtain ⟨rfl, _, _⟩ := h10 (hn 10 (by simp))
      obtain rfl := h13 (hn 13 (by simp))
      go_simp
      unfold RFzJ
      exact ⟨_, _, _, _, _, _, _, _, _, _, _, _, _, _, _, g1, g2, J, n, j, J', n', j', rfl, hB, hz, hM, hZ, hF, fun h j hj => also_of (k15 h j hj), h0, h1, h2, h3, h4, h5, h6, h7, h8, h9, h10, h11, h12, h13, fun _ => ⟨also_of (hn 5 (by simp)), also_of (hn 10 (by simp)), rfl⟩⟩
    | 15, ho =>
      have ho' := Option.some.inj ho
      subst ho'
      refine wpOp_of ho rfl ?_
      have hn := needs_spec (l := [0, 1, 2, 3, 4, 5, 6, 7, 8, 9, 10, 11, 12, 13, 14]) (by kernel_rfl) hed
      obtain ⟨_, _, rfl⟩ := h14 (hn 14 (by simp))
      have hz0 := hZ hLi
      have c0 : W.cell? ⟨gx + 1, 0, none⟩ = some (.int .u64 0) := hz0.cell 0
      have y0 := hz0.free 0
      have c1 : W.cell? ⟨gx + 1, 1, none⟩ = some (.slice none 0 0) := hz0.cell 1
      have y1 := hz0.free 1
      have c2 : W.cell? ⟨gx + 1, 2, none⟩ = some (.slice none 0 0) := hz0.cell 2
      have y2 := hz0.free 2
      have c3 : W.cell? ⟨gx + 1, 3, none⟩ = some (S []) := hz0.cell 3
      have y3 := hz0.free 3
      go_simp
      unfold RFzJ
      exact ⟨_, _, _, _, _, _, _, _, _, _, _, _, _, _, _, g1, g2, J, n, j, J', n', j', rfl, (((hB.setCell (p := ⟨gx + 1, 0, none⟩) (by show gx ≤ gx + 1; omega) _).setCell (p := ⟨gx + 1, 1, none⟩) (by show gx ≤ gx + 1; omega) _).setCell (p := ⟨gx + 1, 2, none⟩) (by show gx ≤ gx + 1; omega) _).setCell (p := ⟨gx + 1, 3, none⟩) (by show gx ≤ gx + 1; omega) _, by simpa [World.setCell] using hz, (((hM.far (p := ⟨gx + 1, 0, none⟩) (by show gx ≠ gx + 1; omega) _).far (p := ⟨gx + 1, 1, none⟩) (by show gx ≠ gx + 1; omega) _).far (p := ⟨gx + 1, 2, none⟩) (by show gx ≠ gx + 1; omega) _).far (p := ⟨gx + 1, 3, none⟩) (by show gx ≠ gx + 1; omega) _, (fun h => by have h' : (true : Bool) = false := h; cases h'), fun _ => (((hz0.set 0 _).set 1 _).set 2 _).set 3 _, fun _ j hj => also_all hj (fun k hk => hn k (by have := List.mem_range.1 hk; simp; omega)), fun _ => rfl, fun _ => rfl, fun _ => rfl, fun _ => rfl, fun _ => rfl, fun h => ⟨rfl, lies_set4 (h5 h).2.1 (fun ad e => by injection e with e; subst e; show g1 ≠ gx + 1; have := (h5 h).2.2; omega), (h5 h).2.2⟩, fun _ => rfl, fun _ => rfl, fun _ => rfl, fun _ => rfl, fun h => ⟨rfl, lies_set4 (h10 h).2.1 (fun ad e => by injection e with e; subst e; show g2 ≠ gx + 1; have := (h10 h).2.2; omega), (h10 h).2.2⟩, fun _ => rfl, fun _ => rfl, fun _ => rfl, fun _ => ⟨also_of (hn 5 (by simp)), also_of (hn 10 (by simp)), rfl⟩⟩
    | n + 16, ho => simp at ho
  case fin =>
    intro Ls a W hL hJ
    unfold RFzJ at hJ
    obtain ⟨u3, u4, u5, u6, u7, u8, u9, u10, u11, u12, u13, u14, u15, u16, u17, g1, g2, J, n, j, J', n', j', rfl, hB, hz, hM, hZ, hF, k15, h0, h1, h2, h3, h4, h5, h6, h7, h8, h9, h10, h11, h12, h13, h14⟩ := hJ
    have hn : ∀ j, j < 16 → Ls j = true := fun j hj => hL j hj
    obtain rfl := h0 (hn 0 (by omega))
    obtain rfl := h1 (hn 1 (by omega))
    obtain rfl := h2 (hn 2 (by omega))
    obtain rfl := h3 (hn 3 (by omega))
    obtain rfl := h4 (hn 4 (by omega))
    obtain rfl := h6 (hn 6 (by omega))
    obtain rfl := h7 (hn 7 (by omega))
    obtain rfl := h8 (hn 8 (by omega))
    obtain rfl := h9 (hn 9 (by omega))
    obtain rfl := h11 (hn 11 (by omega))
    obtain rfl := h12 (hn 12 (by omega))
    obtain rfl := h13 (hn 13 (by omega))
    obtain ⟨rfl, k1, k2⟩ := h5 (hn 5 (by omega))
    obtain ⟨rfl, k3, k4⟩ := h10 (hn 10 (by omega))
    obtain ⟨_, _, rfl⟩ := h14 (hn 14 (by omega))
    have hR := hF (hn 15 (by omega))
    have HK1 := Lib.hid k1
    have HK3 := Lib.hid k3
    have HB := Lib.hid hB
    have r0 : W.cell? ⟨gx + 1, 0, none⟩ = some (.int .u64 ck) := hR.cell 0
    have r1 : W.cell? ⟨gx + 1, 1, none⟩ = some (.slice (some ⟨g1, 0, none⟩) fs.length fs.length) := hR.cell 1
    have r2 : W.cell? ⟨gx + 1, 2, none⟩ = some (.slice (some ⟨g2, 0, none⟩) bs.length bs.length) := hR.cell 2
    have r3 : W.cell? ⟨gx + 1, 3, none⟩ = some (S r) := hR.cell 3
    clear h0 h1 h2 h3 h4 h5 h6 h7 h8 h9 h10 h11 h12 h13 h14 hZ hF k15 hL hn hM hR k1 k3 hB
    go_wp2_with fail
    refine bodyPost_ret (v := .agg #[.int .u64 ck, .slice (some ⟨g1, 0, none⟩) fs.length fs.length, .slice (some ⟨g2, 0, none⟩) bs.length bs.length, S r]) (by simp [results, Tryz.results18, go_sem, r0, r1, r2, r3]) rfl ?_
    refine ⟨⟨some ⟨g1, 0, none⟩, fs.length, some ⟨g2, 0, none⟩, bs.length, by simp only [zerosK_length], HK1.out, HK3.out, fun ad e => ?_, fun ad e => ?_⟩, by rw [HGX.out]; exact HB.out⟩
    · injection e with e; subst e; rw [HGX.out]; show gx ≤ g1; omega
    · injection e with e; subst e; rw [HGX.out]; show gx ≤ g2; omega
end Go.Proofs.YtmmfcjkabpffeaaGreatDoor
