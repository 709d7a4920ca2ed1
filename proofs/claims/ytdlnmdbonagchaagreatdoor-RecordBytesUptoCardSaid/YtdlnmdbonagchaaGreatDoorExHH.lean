import Derived.Test.YtdlnmdbonagchaaGreatDoorExHF
import Derived.Test.YtdlnmdbonagchaaGreatDoorExAl
import Derived.Test.YtdlnmdbonagchaaGreatDoorExHG
import Derived.Test.YtdlnmdbonagchaaGreatDoorExIt
namespace Go.Proofs.YtdlnmdbonagchaaGreatDoor.Ex
open Go.RowKit
def inj0 : Inj:=⟨fun _ => none,fun _ => none⟩
theorem hr0 (w : World) (h : Amb w) : HR inj0 ⟨0,.lf⟩ w :=
 ⟨⟨fun b o h => (by cases h),fun _ _ => ⟨rfl,rfl,rfl⟩,fun b b' o o' x x' h => (by cases h),fun b x h => (by cases h)⟩,h,fun b x h => (by cases h)⟩
theorem runs_true {P : Program} {C : Cmp} (hC : CmpOk C) (hP : C.P = P) {I : Nat → Option Ir} (hI : ∀ f i,I f = some i → IrSound C.P f i) {m f : Nat} (h : Dn C I m (.fn f) [] ⟨0,.lf⟩ (fun v _ => isT v) = true) (w : World) (ha : Amb w) :
  Calls P f #[] w fun e w' => e = .returned (.bool true) ∧ Below w.heap.size w w':=by
 subst hP;obtain ⟨x,H',h1,h2⟩:=Dn_sound hC hI m (.fn f) [] ⟨0,.lf⟩ _ h;obtain ⟨b,rfl,h3⟩:=asB_true (show asB x (fun b => b) = true from h1);subst h3;obtain ⟨_,h4⟩:=h2 inj0 w #[] trivial (hr0 w ha);refine Calls.mono h4 fun e w' he => ?_;obtain ⟨v,rfl,ι',hE,_,hv⟩:=he;have hv : v = .bool true:=hv;subst hv;exact ⟨rfl,hE.same.1,hE.same.2.1,hE.same.2.2,hE.size,fun k hk => hE.keep k hk fun b o x hb => (by cases hb)⟩
end Go.Proofs.YtdlnmdbonagchaaGreatDoor.Ex
namespace Go.Proofs.YtdlnmdbonagchaaGreatDoor.Ex
open Go.RowKit
theorem irs_sound : ∀ f i,irsOf 15 18 75 97 321 83 53 36 98 5 f = some i → IrSound Go.Proofs.Tryz.prog f i:=by
 have sel : ∀ {f g : Nat} {i j : Ir} {rest : Option Ir},selI f g i rest = some j → (f = g ∧ i = j) ∨ rest = some j:=by
  intro f g i j rest h;unfold selI at h;cases hb : Nat.beq f g with
  | true => rw [hb] at h;exact .inl ⟨beq_true hb,Option.some.inj h⟩
  | false => rw [hb] at h;exact .inr h
 intro f i h;unfold irsOf at h;rcases sel h with ⟨rfl,rfl⟩ | h
 ·exact irRow_sound
 rcases sel h with ⟨rfl,rfl⟩ | h
 ·exact irDec_sound
 rcases sel h with ⟨rfl,rfl⟩ | h
 ·exact irSum_sound
 rcases sel h with ⟨rfl,rfl⟩ | h
 ·exact irRep_sound
 rcases sel h with ⟨rfl,rfl⟩ | h
 ·exact irGeom_sound
 rcases sel h with ⟨rfl,rfl⟩ | h
 ·exact irIdx_sound
 rcases sel h with ⟨rfl,rfl⟩ | h
 ·exact irCopy_sound
 rcases sel h with ⟨rfl,rfl⟩ | h
 ·exact irStr_sound
 cases h
theorem mixed_any : Go.Proofs.Tryz.prog.follows .mixedOrders = true:=by kernel_rfl
theorem alive_any (w : World) (ha : Amb w) : Calls Go.Proofs.Tryz.prog 4 #[] w fun e w' => e = .returned (.bool true) ∧ Below w.heap.size w w' :=
 runs_true (cmpOf_ok mixed_any) rfl irs_sound alive_run w ha
end Go.Proofs.YtdlnmdbonagchaaGreatDoor.Ex
