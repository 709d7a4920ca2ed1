/-
  A run of closed code by the kernel: a word that may be any, put into bytes and got out of them; calls that may panic.
-/
import Derived.Test.YtmdciljpcnokcaaGreatDoorEzL
import Derived.Test.YtmdciljpcnokcaaGreatDoorEzU
import Derived.Test.YtmdciljpcnokcaaGreatDoorNumG
namespace Go.Proofs.YtmdciljpcnokcaaGreatDoor.Ex
open Go.RowKit
/-- the bytes 256 to 259 are those of the number 8 -/
class SigW [Sig] : Prop where
  w : ∀ j, j < 4 → Sig.sig (256 + j) = UInt8.ofNat (Sig.num 8 / 256 ^ j % 256)
/-- these bytes, as a text's number -/
noncomputable def wordN : Nat := 72903127086465280
noncomputable def irPutW (e : Ir) : Ir := ⟨fun vs H k => List.rec (e.run vs H k) (fun x _ _ => namK x (fun d => andK (Nat.beq d 65607) (arg2 vs fun _ y => asI y fun ky z => asNat z fun n => andK (Nat.beq ky 3) (andK (Nat.beq n 4) (k (.s (.str 4 wordN)) H)))) (e.run vs H k)) vs⟩
noncomputable def isW (vs : List Va) : Bool := List.rec false (fun x l _ => List.rec (Va.rec (fun y => Sc.rec (fun _ _ => false) (fun l s => Bool.rec false (Nat.beq s wordN) (Nat.beq l 4)) (fun _ _ => false) (fun _ => false) (fun _ _ _ _ _ => false) (fun _ => false) y) (fun _ => false) (fun _ => false) x) (fun _ _ _ => false) l) vs
noncomputable def irGetW (e : Ir) : Ir := ⟨fun vs H k => Bool.rec (e.run vs H k) (k (.s (.oth (.byt 65607))) H) (isW vs)⟩
noncomputable def irOr (a b : Ir) : Ir := ⟨fun vs H k => Bool.rec (b.run vs H k) true (a.run vs H k)⟩
theorem irOr_sound [Sig] {P : Program} {f : Nat} {a b : Ir} (ha : IrSound P f a) (hb : IrSound P f b) : IrSound P f (irOr a b) := by
  intro vs H k h
  have h : (Bool.rec (b.run vs H k) true (a.run vs H k) : Bool) = true := h
  cases hq : a.run vs H k with
  | true => exact ha vs H k hq
  | false => rw [hq] at h; exact hb vs H k h
theorem isW_true {vs : List Va} (h : isW vs = true) : vs = [.s (.str 4 wordN)] := by
  match vs, h with
  | [.s (.str l s)], h =>
    have h : (Bool.rec false (Nat.beq s wordN) (Nat.beq l 4) : Bool) = true := h
    cases hl : Nat.beq l 4 with
    | true =>
      rw [hl] at h
      rw [beq_true hl, beq_true (show Nat.beq s wordN = true from h)]
    | false => rw [hl] at h; cases h
  | [.s (.int _ _)], h => cases h
  | [.s (.ptr _ _)], h => cases h
  | [.s (.bool _)], h => cases h
  | [.s (.sl _ _ _ _ _)], h => cases h
  | [.s (.oth _)], h => cases h
  | [.g _], h => cases h
  | [.t _], h => cases h
  | _ :: _ :: _, h => cases h
theorem word_bytes [Sig] [SigW] : bytesOf 4 wordN = Go.Proofs.YtmdciljpcnokcaaGreatDoor.putL (Sig.num 8) 4 := by
  have e0 : wordN = 256 + 65536 * (257 + 65536 * (258 + 65536 * 259)) := rfl
  have d : ∀ j, j < 4 → dgt (256 + j) = UInt8.ofNat (Sig.num 8 / 256 ^ j % 256) := fun j hj => by
    have : ¬ 256 + j < 256 := by omega
    rw [← SigW.w j hj]
    exact if_neg this
  have e1 : wordN % 65536 = 256 + 0 := rfl
  have e2 : wordN / 65536 % 65536 = 256 + 1 := rfl
  have e3 : wordN / 65536 / 65536 % 65536 = 256 + 2 := rfl
  have e4 : wordN / 65536 / 65536 / 65536 % 65536 = 256 + 3 := rfl
  show [dgt (wordN % 65536), dgt (wordN / 65536 % 65536), dgt (wordN / 65536 / 65536 % 65536), dgt (wordN / 65536 / 65536 / 65536 % 65536)] = _
  rw [e1, e2, e3, e4, d 0 (by decide), d 1 (by decide), d 2 (by decide), d 3 (by decide)]
  rfl
theorem word_R [Sig] [SigW] : StrR ⟨(Go.Proofs.YtmdciljpcnokcaaGreatDoor.putL (Sig.num 8) 4).toArray⟩ 4 wordN := ⟨by rw [word_bytes], by decide⟩
theorem word_get [Sig] : Go.Proofs.YtmdciljpcnokcaaGreatDoor.getL (Go.Proofs.YtmdciljpcnokcaaGreatDoor.putL (Sig.num 8) 4) = Sig.num 8 := by
  have := Sig.lt 8
  generalize Sig.num 8 = n at this ⊢
  show getF [UInt8.ofNat (n / 256 ^ 0 % 256), UInt8.ofNat (n / 256 ^ 1 % 256), UInt8.ofNat (n / 256 ^ 2 % 256), UInt8.ofNat (n / 256 ^ 3 % 256)] = n
  simp only [getF, UInt8.toNat_ofNat']
  omega
theorem irPutW_gen [Sig] [SigW] {f : Nat} (he : entersB Go.Proofs.Tryz.prog f = true) (hc : ∀ (w : World) (n : Nat), n < 18446744073709551616 → Calls Go.Proofs.Tryz.prog f #[.int .u64 (n : Int), .int .i64 ((4 : Nat) : Int)] w fun e w' => e = .returned (S (Go.Proofs.YtmdciljpcnokcaaGreatDoor.putL n 4)) ∧ Below w.heap.size w w')
    {e : Ir} (hs : IrSound Go.Proofs.Tryz.prog f e) : IrSound Go.Proofs.Tryz.prog f (irPutW e) := by
  intro vs H k h
  match vs, h with
  | [], h => exact hs _ _ _ h
  | x :: vs, h =>
    rcases namK_true (show namK x (fun d => andK (Nat.beq d 65607) (arg2 (x :: vs) fun _ y => asI y fun ky z => asNat z fun n => andK (Nat.beq ky 3) (andK (Nat.beq n 4) (k (.s (.str 4 wordN)) H)))) (e.run (x :: vs) H k) = true from h) with ⟨d, rfl, h1, hd⟩ | h1
    · obtain ⟨h2, h3⟩ := andK_true h1
      obtain rfl := beq_true h2
      obtain ⟨_, y, hvs, h4⟩ := arg2_true h3
      obtain ⟨ky, z, rfl, h5⟩ := asI_true h4
      obtain ⟨n, rfl, h6⟩ := asNat_true h5
      obtain ⟨h7, h8⟩ := andK_true h6
      obtain ⟨h9, h10⟩ := andK_true h8
      obtain rfl := beq_true h7
      obtain rfl := beq_true h9
      rw [hvs]
      rw [List.cons.injEq] at hvs
      refine ⟨_, H, h10, fun ι w args hv hH => ⟨callFunc_enter he args w, ?_⟩⟩
      obtain ⟨a, b, e1, ha, hb⟩ := RL2 hv
      rw [← hvs.1] at ha
      have ha : a = .int .u64 (Int.ofNat (Sig.num 8)) := hd ι a ha
      have hb : b = .int .i64 ((4 : Nat) : Int) := hb
      subst ha hb
      have e1 : args = #[.int .u64 ((Sig.num 8 : Nat) : Int), .int .i64 ((4 : Nat) : Int)] := Array.ext' e1
      rw [e1]
      refine Calls.mono (hc w (Sig.num 8) (Nat.lt_trans (Sig.lt 8) (by decide))) fun e w' he => ?_
      obtain ⟨rfl, hB⟩ := he
      obtain ⟨r1, r2⟩ := hH.below hB
      exact ⟨_, rfl, ι, r2, r1, _, rfl, word_R⟩
    · exact hs _ _ _ h1
theorem irGetW_sound [Sig] [SigW] {e : Ir} (hs : IrSound Go.Proofs.Tryz.prog 193 e) : IrSound Go.Proofs.Tryz.prog 193 (irGetW e) := by
  intro vs H k h
  have h : (Bool.rec (e.run vs H k) (k (.s (.oth (.byt 65607))) H) (isW vs) : Bool) = true := h
  cases hw : isW vs with
  | false => rw [hw] at h; exact hs _ _ _ h
  | true =>
    rw [hw] at h
    obtain rfl := isW_true hw
    refine ⟨_, H, h, fun ι w args hv hH => ⟨callFunc_enter (by decide +kernel) args w, ?_⟩⟩
    obtain ⟨v, e1, s, rfl, hS⟩ := RL1 hv
    have hs : s = ⟨(Go.Proofs.YtmdciljpcnokcaaGreatDoor.putL (Sig.num 8) 4).toArray⟩ := by
      have := hS.1
      rw [word_bytes] at this
      cases s with
      | mk d => exact congrArg _ (Array.ext' this)
    subst hs
    have e1 : args = #[S (Go.Proofs.YtmdciljpcnokcaaGreatDoor.putL (Sig.num 8) 4)] := Array.ext' e1
    rw [e1]
    refine Calls.mono (get_any w (Go.Proofs.YtmdciljpcnokcaaGreatDoor.putL (Sig.num 8) 4) (by rw [Go.Proofs.YtmdciljpcnokcaaGreatDoor.putL_length]; decide)) fun e w' he => ?_
    obtain ⟨rfl, rfl⟩ := he
    refine ⟨_, rfl, ι, Ext.refl _ _ _, hH, ?_⟩
    rw [word_get]
    have hn : ¬ 65607 < 65536 := by decide
    have key : ∀ A B : Prop, B → (if 65607 < 65536 then A else B) := fun A B hb => by rw [if_neg hn]; exact hb
    exact key (Value.int .u64 ((Sig.num 8 : Nat) : Int) = .int .u8 ((dgt 65607).toNat : Int)) _ rfl
theorem irPut_sound [Sig] [SigW] {e : Ir} (hs : IrSound Go.Proofs.Tryz.prog 288 e) : IrSound Go.Proofs.Tryz.prog 288 (irPutW e) :=
  irPutW_gen (by decide +kernel) (fun w n hn => put_any w n 4 hn (by decide)) hs
theorem irRPut_sound [Sig] [SigW] {e : Ir} (hs : IrSound Go.Proofs.Tryz.prog 33 e) : IrSound Go.Proofs.Tryz.prog 33 (irPutW e) :=
  irPutW_gen (by decide +kernel) (fun w n hn => rput_any w n 4 hn (by decide)) hs
/-- the contracts, with a word that may be any, but for the kernel's frame -/
noncomputable def irsW (f : Nat) : Option Ir :=
  selI f 33 (irPutW (irD (Dn CP irsB 200) 33)) (selI f 288 (irPutW (irD (Dn CP irsB 200) 288))
    (selI f 193 (irGetW (irD (Dn CP irsB 200) 193)) (irsB f)))
/-- from the kernel's call to where wait finds that there is nobody -/
def waitWay : List (Nat × List PStep) := [(49, [.r, .b, .r, .c, .r, .c, .r, .c, .r, .c, .r, .c, .r, .c, .r, .c, .r, .c, .o 1]), (76, [.r, .r, .r, .l, .o 2]),
  (122, [.o 4]), (82, [.r, .c, .o 2])]
noncomputable def irsK (f : Nat) : Option Ir := selI f 24 (irOr (irTry (Dn CP irsW 200) 49) (irPan (Dn CP irsW 200) waitWay)) (irsW f)
theorem irsW_pure [Sig] (f : Nat) (hf : pureF f = true) : ∃ i, irsW f = some i ∧ IrStill i := sel_pure (by decide) (sel_pure (by decide) (sel_pure (by decide) (irsB_pure f))) hf
theorem irsK_pure [Sig] (f : Nat) (hf : pureF f = true) : ∃ i, irsK f = some i ∧ IrStill i := sel_pure (by decide) (irsW_pure f) hf
theorem irsW_sound [Sig] [SigW] : ∀ f i, irsW f = some i → IrSound Go.Proofs.Tryz.prog f i := by
  intro f i h
  have hB := Dn_sound CP_ok irsB_sound irsB_pure 200
  unfold irsW at h
  rcases sel_some h with ⟨rfl, rfl⟩ | h
  · exact irRPut_sound (irD_sound hB _)
  rcases sel_some h with ⟨rfl, rfl⟩ | h
  · exact irPut_sound (irD_sound hB _)
  rcases sel_some h with ⟨rfl, rfl⟩ | h
  · exact irGetW_sound (irD_sound hB _)
  exact irsB_sound f i h
theorem irsK_sound [Sig] [SigW] : ∀ f i, irsK f = some i → IrSound Go.Proofs.Tryz.prog f i := by
  intro f i h
  have hW := Dn_sound CP_ok irsW_sound irsW_pure 200
  unfold irsK at h
  rcases sel_some h with ⟨rfl, rfl⟩ | h
  · exact irOr_sound (irTry_sound hW) (irPan_sound hW _)
  exact irsW_sound f i h
end Go.Proofs.YtmdciljpcnokcaaGreatDoor.Ex
