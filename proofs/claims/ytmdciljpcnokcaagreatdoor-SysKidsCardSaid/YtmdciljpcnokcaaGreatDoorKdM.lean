/-
  hibernaclelaw29.SysKids returns true of any word, any number and any signals: from the runs by the kernel.
-/
import Derived.Test.YtmdciljpcnokcaaGreatDoorKdL
namespace Go.Proofs.YtmdciljpcnokcaaGreatDoor.Kd
open Go.RowKit
open Go.Proofs.YtmdciljpcnokcaaGreatDoor.Ex
theorem kidsX1 (ps : List Nat) (hl : ps.length = 1) (hp : ∀ p ∈ ps, p < 2) (x : Nat) : kidsR 0 (x + 1) ps = true := by
  match ps, hl with
  | [a], _ =>
    have ha : a = 0 ∨ a = 1 := by have := hp a (by simp); omega
    rcases ha with rfl | rfl
    · exact kids1x_0 x
    · exact kids1x_1 x
theorem kidsX2 (ps : List Nat) (hl : ps.length = 2) (hp : ∀ p ∈ ps, p < 2) (x : Nat) : kidsR 1 (x + 2) ps = true := by
  match ps, hl with
  | [a, b], _ =>
    have ha : a = 0 ∨ a = 1 := by have := hp a (by simp); omega
    have hb : b = 0 ∨ b = 1 := by have := hp b (by simp); omega
    rcases ha with rfl | rfl <;> rcases hb with rfl | rfl
    · exact kids2x_00 x
    · exact kids2x_01 x
    · exact kids2x_10 x
    · exact kids2x_11 x
theorem kidsL2_1 (ps : List Nat) (hl : ps.length = 1) (hp : ∀ p ∈ ps, p < 2) : kidsR 1 1 ps = true := by
  match ps, hl with
  | [a], _ =>
    have ha : a = 0 ∨ a = 1 := by have := hp a (by simp); omega
    rcases ha with rfl | rfl
    · exact kids2_1_0
    · exact kids2_1_1
theorem kidsX3 (ps : List Nat) (hl : ps.length = 3) (hp : ∀ p ∈ ps, p < 2) (x : Nat) : kidsR 2 (x + 3) ps = true := by
  match ps, hl with
  | [a, b, c], _ =>
    have ha : a = 0 ∨ a = 1 := by have := hp a (by simp); omega
    have hb : b = 0 ∨ b = 1 := by have := hp b (by simp); omega
    have hc : c = 0 ∨ c = 1 := by have := hp c (by simp); omega
    rcases ha with rfl | rfl <;> rcases hb with rfl | rfl <;> rcases hc with rfl | rfl
    · exact kids3x_000 x
    · exact kids3x_001 x
    · exact kids3x_010 x
    · exact kids3x_011 x
    · exact kids3x_100 x
    · exact kids3x_101 x
    · exact kids3x_110 x
    · exact kids3x_111 x
theorem kidsL3_1 (ps : List Nat) (hl : ps.length = 1) (hp : ∀ p ∈ ps, p < 2) : kidsR 2 1 ps = true := by
  match ps, hl with
  | [a], _ =>
    have ha : a = 0 ∨ a = 1 := by have := hp a (by simp); omega
    rcases ha with rfl | rfl
    · exact kids3_1_0
    · exact kids3_1_1
theorem kidsL3_2 (ps : List Nat) (hl : ps.length = 2) (hp : ∀ p ∈ ps, p < 2) : kidsR 2 2 ps = true := by
  match ps, hl with
  | [a, b], _ =>
    have ha : a = 0 ∨ a = 1 := by have := hp a (by simp); omega
    have hb : b = 0 ∨ b = 1 := by have := hp b (by simp); omega
    rcases ha with rfl | rfl <;> rcases hb with rfl | rfl
    · exact kids3_2_00
    · exact kids3_2_01
    · exact kids3_2_10
    · exact kids3_2_11
theorem kidsX4 (ps : List Nat) (hl : ps.length = 4) (hp : ∀ p ∈ ps, p < 2) (x : Nat) : kidsR 3 (x + 4) ps = true := by
  match ps, hl with
  | [a, b, c, d], _ =>
    have ha : a = 0 ∨ a = 1 := by have := hp a (by simp); omega
    have hb : b = 0 ∨ b = 1 := by have := hp b (by simp); omega
    have hc : c = 0 ∨ c = 1 := by have := hp c (by simp); omega
    have hd : d = 0 ∨ d = 1 := by have := hp d (by simp); omega
    rcases ha with rfl | rfl <;> rcases hb with rfl | rfl <;> rcases hc with rfl | rfl <;> rcases hd with rfl | rfl
    · exact kids4x_0000 x
    · exact kids4x_0001 x
    · exact kids4x_0010 x
    · exact kids4x_0011 x
    · exact kids4x_0100 x
    · exact kids4x_0101 x
    · exact kids4x_0110 x
    · exact kids4x_0111 x
    · exact kids4x_1000 x
    · exact kids4x_1001 x
    · exact kids4x_1010 x
    · exact kids4x_1011 x
    · exact kids4x_1100 x
    · exact kids4x_1101 x
    · exact kids4x_1110 x
    · exact kids4x_1111 x
theorem kidsL4_1 (ps : List Nat) (hl : ps.length = 1) (hp : ∀ p ∈ ps, p < 2) : kidsR 3 1 ps = true := by
  match ps, hl with
  | [a], _ =>
    have ha : a = 0 ∨ a = 1 := by have := hp a (by simp); omega
    rcases ha with rfl | rfl
    · exact kids4_1_0
    · exact kids4_1_1
theorem kidsL4_2 (ps : List Nat) (hl : ps.length = 2) (hp : ∀ p ∈ ps, p < 2) : kidsR 3 2 ps = true := by
  match ps, hl with
  | [a, b], _ =>
    have ha : a = 0 ∨ a = 1 := by have := hp a (by simp); omega
    have hb : b = 0 ∨ b = 1 := by have := hp b (by simp); omega
    rcases ha with rfl | rfl <;> rcases hb with rfl | rfl
    · exact kids4_2_00
    · exact kids4_2_01
    · exact kids4_2_10
    · exact kids4_2_11
theorem kidsL4_3 (ps : List Nat) (hl : ps.length = 3) (hp : ∀ p ∈ ps, p < 2) : kidsR 3 3 ps = true := by
  match ps, hl with
  | [a, b, c], _ =>
    have ha : a = 0 ∨ a = 1 := by have := hp a (by simp); omega
    have hb : b = 0 ∨ b = 1 := by have := hp b (by simp); omega
    have hc : c = 0 ∨ c = 1 := by have := hp c (by simp); omega
    rcases ha with rfl | rfl <;> rcases hb with rfl | rfl <;> rcases hc with rfl | rfl
    · exact kids4_3_000
    · exact kids4_3_001
    · exact kids4_3_010
    · exact kids4_3_011
    · exact kids4_3_100
    · exact kids4_3_101
    · exact kids4_3_110
    · exact kids4_3_111
/-- the parities of the signals, as many as there are children -/
def parL (n : Nat) (gs : List UInt8) : List Nat := (gs.take n).map fun g => g.toNat % 2
theorem parL_lt (n : Nat) (gs : List UInt8) : ∀ p ∈ parL n gs, p < 2 := by
  intro p hp
  obtain ⟨g, _, rfl⟩ := List.mem_map.1 hp
  omega
theorem kids_all (r : Nat) (hr : r < 4) (gs : List UInt8) (hg : 1 ≤ gs.length) : kidsR r gs.length (parL (r + 1) gs) = true := by
  have hlt := parL_lt (r + 1) gs
  have hl : (parL (r + 1) gs).length = min (r + 1) gs.length := by simp [parL]
  generalize parL (r + 1) gs = ps at hlt hl
  generalize hm : gs.length = m at hl hg
  rcases (by omega : r = 0 ∨ r = 1 ∨ r = 2 ∨ r = 3) with rfl | rfl | rfl | rfl
  · have := kidsX1 ps (by omega) hlt (m - 1)
    rwa [show m - 1 + 1 = m by omega] at this
  · rcases (by omega : m = 1 ∨ 2 ≤ m) with rfl | h
    · exact kidsL2_1 ps (by omega) hlt
    · have := kidsX2 ps (by omega) hlt (m - 2)
      rwa [show m - 2 + 2 = m by omega] at this
  · rcases (by omega : m = 1 ∨ m = 2 ∨ 3 ≤ m) with rfl | rfl | h
    · exact kidsL3_1 ps (by omega) hlt
    · exact kidsL3_2 ps (by omega) hlt
    · have := kidsX3 ps (by omega) hlt (m - 3)
      rwa [show m - 3 + 3 = m by omega] at this
  · rcases (by omega : m = 1 ∨ m = 2 ∨ m = 3 ∨ 4 ≤ m) with rfl | rfl | rfl | h
    · exact kidsL4_1 ps (by omega) hlt
    · exact kidsL4_2 ps (by omega) hlt
    · exact kidsL4_3 ps (by omega) hlt
    · have := kidsX4 ps (by omega) hlt (m - 4)
      rwa [show m - 4 + 4 = m by omega] at this
theorem kids_nil (r : Nat) (hr : r < 4) : kids r (.oth .nils) ⟨1, .lf⟩ = true := by
  rcases (by omega : r = 0 ∨ r = 1 ∨ r = 2 ∨ r = 3) with rfl | rfl | rfl | rfl
  · exact kidsNil1
  · exact kidsNil2
  · exact kidsNil3
  · exact kidsNil4
theorem kids_emp (r : Nat) (hr : r < 4) : kids r (.oth .emp) ⟨1, .lf⟩ = true := by
  rcases (by omega : r = 0 ∨ r = 1 ∨ r = 2 ∨ r = 3) with rfl | rfl | rfl | rfl
  · exact kidsEmp1
  · exact kidsEmp2
  · exact kidsEmp3
  · exact kidsEmp4
/-- the numbers that have a name: the word (8), the number of children (below 4), the signals (from 16 on) -/
def numK (W M : Nat) (gs : List UInt8) (i : Nat) : Nat :=
  if i = 8 then W else if i < 4 then (if i = M % 4 then M else i) else if 16 ≤ i then (if (gs.getD ((i - 16) / 2) 0).toNat % 2 = i % 2 then (gs.getD ((i - 16) / 2) 0).toNat else i % 2) else 0
theorem numK_lt {W M : Nat} {gs : List UInt8} (hW : W < 4294967296) (hM : M < 256) (i : Nat) : numK W M gs i < 4294967296 := by
  have := (gs.getD ((i - 16) / 2) 0).toNat_lt
  unfold numK
  split
  · exact hW
  · split
    · split <;> omega
    · split
      · split <;> omega
      · omega
theorem numK_four {W M : Nat} {gs : List UInt8} (i : Nat) (hi : i < 4) : numK W M gs i % 4 = i := by
  unfold numK
  rw [if_neg (by omega), if_pos hi]
  split <;> omega
theorem numK_two {W M : Nat} {gs : List UInt8} (i : Nat) (hi : 16 ≤ i) : numK W M gs i % 2 = i % 2 := by
  unfold numK
  rw [if_neg (by omega), if_neg (by omega), if_pos hi]
  split <;> omega
abbrev sigK (W M : Nat) (gs : List UInt8) (hW : W < 4294967296) (hM : M < 256) : Sig := ⟨fun d => UInt8.ofNat (W / 256 ^ (d - 256) % 256), numK W M gs, numK_lt hW hM, numK_four, numK_two⟩
theorem sigK_w (W M : Nat) (gs : List UInt8) (hW : W < 4294967296) (hM : M < 256) : @SigW (sigK W M gs hW hM) :=
  letI := sigK W M gs hW hM
  ⟨fun j _ => by
    show UInt8.ofNat (W / 256 ^ (256 + j - 256) % 256) = UInt8.ofNat (numK W M gs 8 / 256 ^ j % 256)
    rw [Nat.add_sub_cancel_left]
    rfl⟩
theorem byt_R [Sig] {ι : Inj} {d : Nat} {v : Value} (h : ¬ d < 65536) (hv : v = .int (kOf ((d - 65536) % 8)) (Int.ofNat (Sig.num ((d - 65536) / 8)))) : Sc.R ι (.oth (.byt d)) v := by
  show if d < 65536 then v = .int .u8 ((dgt d).toNat : Int) else v = .int (kOf ((d - 65536) % 8)) (Int.ofNat (Sig.num ((d - 65536) / 8)))
  rw [if_neg h]
  exact hv
section
variable {W M : Nat} {gs : List UInt8} {hW : W < 4294967296} {hM : M < 256}
theorem wordK_R (ι : Inj) : @Va.R (sigK W M gs hW hM) ι (.s (.oth (.byt 65606))) (.int .u32 (W : Int)) := by
  letI := sigK W M gs hW hM
  exact byt_R (ι := ι) (d := 65606) (by decide) rfl
theorem manyK_R (ι : Inj) : @Va.R (sigK W M gs hW hM) ι (.s (.oth (.byt (65540 + 8 * (M % 4))))) (.int .u8 (M : Int)) := by
  letI := sigK W M gs hW hM
  have hn : ¬ 65540 + 8 * (M % 4) < 65536 := by omega
  have e1 : (65540 + 8 * (M % 4) - 65536) % 8 = 4 := by omega
  have e2 : (65540 + 8 * (M % 4) - 65536) / 8 = M % 4 := by omega
  have e3 : numK W M gs (M % 4) = M := by
    unfold numK
    rw [if_neg (by omega), if_pos (by omega), if_pos rfl]
  refine byt_R (ι := ι) hn ?_
  rw [e1, e2]
  show Value.int .u8 (M : Int) = .int (kOf 4) (Int.ofNat (numK W M gs (M % 4)))
  rw [e3]
  rfl
theorem sigK_R (ι : Inj) {j : Nat} {g : UInt8} (hg : gs[j]? = some g) : @CR (sigK W M gs hW hM) ι (.oth (.byt (65668 + (16 * j + 8 * (g.toNat % 2))))) (.int .u8 (g.toNat : Int)) := by
  letI := sigK W M gs hW hM
  refine ⟨?_, rfl⟩
  have hp : g.toNat % 2 < 2 := Nat.mod_lt _ (by decide)
  have hn : ¬ 65668 + (16 * j + 8 * (g.toNat % 2)) < 65536 := by omega
  have e1 : (65668 + (16 * j + 8 * (g.toNat % 2)) - 65536) % 8 = 4 := by omega
  have e2 : (65668 + (16 * j + 8 * (g.toNat % 2)) - 65536) / 8 = 16 + 2 * j + g.toNat % 2 := by omega
  have e3 : numK W M gs (16 + 2 * j + g.toNat % 2) = g.toNat := by
    unfold numK
    have e4 : (16 + 2 * j + g.toNat % 2 - 16) / 2 = j := by omega
    have e5 : gs.getD j 0 = g := by rw [List.getD_eq_getElem?_getD, hg]; rfl
    rw [if_neg (by omega), if_neg (by omega), if_pos (by omega), e4, e5, if_pos (by omega)]
  refine byt_R (ι := ι) hn ?_
  rw [e1, e2]
  show Value.int .u8 (g.toNat : Int) = .int (kOf 4) (Int.ofNat (numK W M gs (16 + 2 * j + g.toNat % 2)))
  rw [e3]
  rfl
end
theorem sigC_get : ∀ (ps : List Nat) (k j : Nat) (x : Sc), (List.rec (fun _ => []) (fun p _ ih j => .oth (.byt (65668 + (16 * j + 8 * p))) :: ih (Nat.succ j)) ps k : List Sc)[j]? = some x → ∃ p, ps[j]? = some p ∧ x = .oth (.byt (65668 + (16 * (k + j) + 8 * p)))
  | [], k, j, x, h => by simp at h
  | p :: ps, k, 0, x, h => by
    simp at h
    exact ⟨p, rfl, h.symm⟩
  | p :: ps, k, j + 1, x, h => by
    obtain ⟨q, h1, h2⟩ := sigC_get ps (k + 1) j x (by simpa using h)
    exact ⟨q, by simpa using h1, by rw [h2]; congr 3; omega⟩
theorem sigC_length : ∀ (ps : List Nat) (k : Nat), (List.rec (fun _ => []) (fun p _ ih j => .oth (.byt (65668 + (16 * j + 8 * p))) :: ih (Nat.succ j)) ps k : List Sc).length = ps.length
  | [], _ => rfl
  | _ :: ps, k => congrArg (· + 1) (sigC_length ps (k + 1))
theorem kids_end [Sig] [SigW] {r : Nat} {sg : Sc} {H : Hp} (h : kids r sg H = true) {ι : Inj} {w : World} {args : Array Value} (hv : RL (Va.R ι) [.s (.oth (.byt 65606)), .s (.oth (.byt (65540 + 8 * r))), .s sg] args.toList) (hH : HR ι H w)
    (hk : ∀ b o, H.t.get b = some o → ∃ l, o = .cells l true none) : Calls Go.Proofs.Tryz.prog 4 args w fun e w' => e = .returned (.bool true) ∧ Below w.heap.size w w' := by
  obtain ⟨x, H', h1, h2⟩ := (Dn_sound CP_ok irsQ_sound irsQ_pure _).go _ _ _ _ h
  obtain ⟨b, rfl, h3⟩ := asB_true (show asB x (fun b => b) = true from h1)
  subst h3
  obtain ⟨_, h4⟩ := h2 ι w args hv hH
  refine Calls.mono h4 fun e w' he => ?_
  obtain ⟨v, rfl, ι', hE, _, hv⟩ := he
  have hv : v = .bool true := hv
  subst hv
  refine ⟨rfl, hE.same.1, hE.same.2.1, hE.same.2.2, hE.size, fun k hlt => ?_⟩
  by_cases hq : ∃ b o x, H.t.get b = some o ∧ ι.loc b = some x ∧ x.block = k
  · obtain ⟨b, o, x, q1, q2, rfl⟩ := hq
    obtain ⟨l, rfl⟩ := hk b o q1
    exact (hE.ro b l x q1 q2 hlt).1
  · exact hE.keep k hlt fun b o x q1 q2 q3 => hq ⟨b, o, x, q1, q2, q3⟩
theorem hr1 [Sig] (w : World) : HR inj0 ⟨1, .lf⟩ w :=
  ⟨⟨fun b o h => (by cases h), fun _ _ => ⟨rfl, rfl, rfl⟩, fun b b' o o' x x' h => (by cases h), fun b x h => (by cases h)⟩, ⟨trivial⟩, fun b x h => (by cases h)⟩
def inj1 (x : Ex.Loc) : Inj := ⟨fun b => if b = 0 then some x else none, fun _ => none⟩
theorem one_get {o : Ob} {b : Nat} {p : Ob} (h : (Tr.nd (some o) .lf .lf).get b = some p) : b = 0 ∧ p = o := by
  unfold Tr.get at h
  by_cases e : b = 0
  · rw [if_pos e] at h
    exact ⟨e, (Option.some.inj h).symm⟩
  · rw [if_neg e] at h
    split at h <;> cases h
theorem hrRow [Sig] {w : World} {x : Ex.Loc} {o : Ob} (ho : o.R (inj1 x) w 0) (hx : x.block < w.heap.size) : HR (inj1 x) ⟨1, .nd (some o) .lf .lf⟩ w := by
  refine ⟨⟨fun b p h => ?_, fun b h => ?_, fun b b' p p' y y' h h' _ _ _ => ?_, fun b y h => ?_⟩, ⟨trivial⟩, fun b y h => Nat.zero_le _⟩
  · obtain ⟨rfl, rfl⟩ := one_get h
    exact ho
  · have h : 1 ≤ b := h
    refine ⟨if_neg (by omega), rfl, ?_⟩
    cases hg : (Tr.nd (some o) .lf .lf).get b with
    | none => rfl
    | some p => have := (one_get hg).1; omega
  · rw [(one_get h).1, (one_get h').1]
  · by_cases e : b = 0
    · have h : (if b = 0 then some x else none) = some y := h
      rw [if_pos e] at h
      cases h
      exact hx
    · have h : (if b = 0 then some x else none) = some y := h
      rw [if_neg e] at h
      cases h
theorem cell_in {w : World} {B o : Nat} {v : Value} (h : w.cell? ⟨B, o, none⟩ = some v) : ∃ c e f, w.heap[B]? = some (.cells c e f) ∧ c[o]? = some v := by
  unfold World.cell? at h
  split at h
  · rename_i c e f hb
    exact ⟨c, e, f, hb, h⟩
  · cases h
theorem spot_none {w : World} {a : Addr} {v : Value} (h : w.cell? a = some v) : a.spot = none := by
  unfold World.cell? at h
  split at h
  · cases hs : a.spot with
    | none => rfl
    | some s => rw [hs] at h; cases h
  · cases h
theorem kidsLaw_any (w : World) (W M : Nat) (hW : W < 4294967296) (hM : M < 256) (v : Value)
    (hv : v = .slice none 0 0 ∨ ∃ (a : Addr) (c : Nat) (gs : List UInt8), v = .slice (some a) gs.length c ∧ (∀ j x, gs[j]? = some x → w.cell? (a.add j) = some (.int .u8 (x.toNat : Int))) ∧ gs.length ≤ c ∧ (∀ j, j < c → (w.cell? (a.add j)).isSome = true)) :
    Calls Go.Proofs.Tryz.prog 4 #[.int .u32 (W : Int), .int .u8 (M : Int), v] w fun e w' => e = .returned (.bool true) ∧ Below w.heap.size w w' := by
  have hr : M % 4 < 4 := Nat.mod_lt _ (by decide)
  rcases hv with rfl | ⟨a, c, gs, rfl, hc, hgc, hcap⟩
  · letI := sigK W M [] hW hM
    letI := sigK_w W M [] hW hM
    exact kids_end (kids_nil (M % 4) hr) ⟨wordK_R inj0, manyK_R inj0, rfl, trivial⟩ (hr1 w) (fun b o h => (by cases h))
  · by_cases hg : gs.length = 0
    · letI := sigK W M gs hW hM
      letI := sigK_w W M gs hW hM
      exact kids_end (kids_emp (M % 4) hr) ⟨wordK_R inj0, manyK_R inj0, ⟨a, c, by rw [hg]⟩, trivial⟩ (hr1 w) (fun b o h => (by cases h))
    · obtain ⟨v0, hv0⟩ := Option.isSome_iff_exists.1 (hcap 0 (by omega))
      have ha0 : a.add 0 = a := rfl
      rw [ha0] at hv0
      have hsp := spot_none hv0
      obtain ⟨B, o, sp⟩ := a
      have hsp : sp = none := hsp
      subst hsp
      obtain ⟨cs, e, f, hb, h0⟩ := cell_in hv0
      have hlt : o < cs.size := (Array.getElem?_eq_some_iff.1 h0).1
      have at_ : ∀ j, j < c → o + j < cs.size := fun j hj => by
        obtain ⟨u, hu⟩ := Option.isSome_iff_exists.1 (hcap j hj)
        rw [Addr.add_lit] at hu
        obtain ⟨cs', e', f', hb', hu'⟩ := cell_in hu
        rw [hb] at hb'
        cases hb'
        exact (Array.getElem?_eq_some_iff.1 hu').1
      have hcs : o + c ≤ cs.size := by have := at_ (c - 1) (by omega); omega
      letI := sigK W M gs hW hM
      letI := sigK_w W M gs hW hM
      let x : Ex.Loc := ⟨B, o, cs.size - o⟩
      have hR : Ob.R (inj1 x) w 0 (.cells (sigC (parL (M % 4 + 1) gs)) true none) := by
        refine ⟨x, cs, e, f, rfl, hb, ⟨by show o + (cs.size - o) = cs.size; omega, fun t ht => by cases ht⟩, ?_, fun i y hy => ?_, fun h => by cases h⟩
        · show (sigC (parL (M % 4 + 1) gs)).length ≤ cs.size - o
          rw [show (sigC (parL (M % 4 + 1) gs)).length = _ from sigC_length _ 0]
          simp only [parL, List.length_map, List.length_take]
          omega
        · obtain ⟨p, h1, rfl⟩ := sigC_get (parL (M % 4 + 1) gs) 0 i y hy
          unfold parL at h1
          rw [List.getElem?_map] at h1
          cases hgi : (gs.take (M % 4 + 1))[i]? with
          | none => rw [hgi] at h1; cases h1
          | some g =>
            rw [hgi] at h1
            cases h1
            rw [List.getElem?_take] at hgi
            split at hgi
            · have hcell := hc i g hgi
              rw [Addr.add_lit] at hcell
              obtain ⟨cs', e', f', hb', hu'⟩ := cell_in hcell
              rw [hb] at hb'
              cases hb'
              refine ⟨_, hu', ?_⟩
              have := sigK_R (W := W) (M := M) (hW := hW) (hM := hM) (inj1 x) hgi
              rwa [Nat.zero_add]
            · cases hgi
      refine kids_end (kids_all (M % 4) hr gs (by omega)) (ι := inj1 x) ⟨wordK_R _, manyK_R _, ⟨x, c, rfl, rfl, hgc, by show 0 + c * 1 ≤ cs.size - o; omega, fun k e => by cases e⟩, trivial⟩
        (hrRow hR (Array.getElem?_eq_some_iff.1 hb).1) (fun b p h => ?_)
      obtain ⟨_, rfl⟩ := one_get h
      exact ⟨_, rfl⟩
end Go.Proofs.YtmdciljpcnokcaaGreatDoor.Kd
