import Derived.Test.YtdkhnjjihbmlmaaGreatDoorEyF
import Derived.Test.YtdkhnjjihbmlmaaGreatDoorEyL
import Derived.Test.YtdkhnjjihbmlmaaGreatDoorSyT
namespace Go.Proofs.YtdkhnjjihbmlmaaGreatDoor.Ex
open Go.RowKit
theorem irTry_sound {D : Dt} (hD : DS Go.Proofs.Tryz.prog D) : IrSound Go.Proofs.Tryz.prog 17 (irTry D 32):=by
 intro vs H k h;obtain ⟨x,y,rfl,h1⟩:=arg2_true (show arg2 vs _ = true from h);obtain ⟨b,off,rfl,h1⟩:=asPtr_true h1;obtain ⟨v,H',h2,h3⟩:=hD _ _ _ _ h1;cases v with
 | s => cases h2
 | g => cases h2
 | t l =>
  cases l with
  | cons => cases h2
  | nil =>
   have h2 : k (.t []) H' = true:=h2;refine ⟨_,_,h2,fun ι w args hv hH => ⟨callFunc_enter (by decide +kernel) args w,?_⟩⟩;have hv':=hv;obtain ⟨p,n,e1,⟨q,_,rfl⟩,_⟩:=RL2 hv';have e1 : args = #[.pointer (some ⟨q.block,q.base + off,none⟩),n]:=Array.ext' e1;subst e1;refine Calls.mono (try_gen w (some ⟨q.block,q.base + off,none⟩) n (Behind ι H w (.t []) H' (.tuple #[])) fun W hW => ?_) ?_
   ·obtain ⟨hR,hE⟩:=hH.below hW;refine Calls.mono (h3 ι W _ hv hR).2 ?_;rintro e w' ⟨v,rfl,ι',hE',hR',us,rfl,hu⟩
    have : us = #[]:=by
     cases us with
     | mk l =>
      cases l with
      | nil => rfl
      | cons => exact hu.elim
    subst this;exact ⟨rfl,ι',hE.trans hE',hR',_,rfl,trivial⟩
   ·rintro e w' ⟨rfl,h⟩;exact ⟨_,rfl,h⟩
theorem irs_sound (C : Cmp) (hC : CmpOk C) (hP : C.P = Go.Proofs.Tryz.prog) : ∀ f i,irsOf C 122 77 38 119 5 17 32 f = some i → IrSound Go.Proofs.Tryz.prog f i:=by
 have sel : ∀ {f g : Nat} {i j : Ir} {rest : Option Ir},selI f g i rest = some j → (f = g ∧ i = j) ∨ rest = some j:=by
  intro f g i j rest h;unfold selI at h;cases hb : Nat.beq f g with
  | true => rw [hb] at h;exact .inl ⟨beq_true hb,Option.some.inj h⟩
  | false => rw [hb] at h;exact .inr h
 have base : ∀ f i,irs0 122 77 38 119 5 f = some i → IrSound Go.Proofs.Tryz.prog f i:=by
  intro f i h;unfold irs0 at h;rcases sel h with ⟨rfl,rfl⟩ | h
  ·exact irRep_sound
  rcases sel h with ⟨rfl,rfl⟩ | h
  ·exact irCopy_sound
  rcases sel h with ⟨rfl,rfl⟩ | h
  ·exact irStr_sound
  cases h
 intro f i h;unfold irsOf at h;rcases sel h with ⟨rfl,rfl⟩ | h
 ·exact irTry_sound (hP ▸ Dn_sound hC (hP ▸ base) _)
 exact base f i h
theorem mixed_any : Go.Proofs.Tryz.prog.follows .mixedOrders = true:=by kernel_rfl
def inj0 : Inj:=⟨fun _ => none,fun _ => none⟩
theorem hr0 (w : World) : HR inj0 ⟨0,.lf⟩ w :=
 ⟨⟨fun b o h => (by cases h),fun _ _ => ⟨rfl,rfl,rfl⟩,fun b b' o o' x x' h => (by cases h),fun b x h => (by cases h)⟩,⟨trivial⟩,fun b x h => (by cases h)⟩
theorem alive_any (w : World) : Calls Go.Proofs.Tryz.prog 4 #[] w fun e w' => e = .returned (.bool true) ∧ Below w.heap.size w w':=by
 have hC:=cmpOf_ok mixed_any;obtain ⟨x,H',h1,h2⟩:=Dn_sound hC (irs_sound _ hC rfl) _ _ _ _ _ alive_run;obtain ⟨b,rfl,h3⟩:=asB_true (show asB x (fun b => b) = true from h1);subst h3;obtain ⟨_,h4⟩:=h2 inj0 w #[] trivial (hr0 w);refine Calls.mono h4 fun e w' he => ?_;obtain ⟨v,rfl,ι',hE,_,hv⟩:=he;have hv : v = .bool true:=hv;subst hv;exact ⟨rfl,hE.same.1,hE.same.2.1,hE.same.2.2,hE.size,fun k hk => hE.keep k hk fun b o x hb => (by cases hb)⟩
end Go.Proofs.YtdkhnjjihbmlmaaGreatDoor.Ex
