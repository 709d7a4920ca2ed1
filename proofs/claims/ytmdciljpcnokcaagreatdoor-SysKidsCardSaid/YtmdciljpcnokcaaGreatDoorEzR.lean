/-
  A run of closed code by the kernel: functions whose contract is known (what they do here; that it is so, the texts behind say).
-/
import Derived.Test.YtmdciljpcnokcaaGreatDoorEzE
namespace Go.Proofs.YtmdciljpcnokcaaGreatDoor.Ex
/-- is a pointer nil, or is it the one said? -/
noncomputable def selfK (y : Sc) (b : Nat) (e : Bool) (f : Bool) : Bool :=
  Sc.rec (fun _ _ => false) (fun _ _ => false) (fun b' off => andK (Nat.beq b' b) (andK (Nat.beq off 0) f)) (fun _ => false) (fun _ _ _ _ _ => false)
    (fun o => Ot.rec false false e false false false (fun _ => false) (fun _ _ => false) (fun _ => false) (fun _ => false) false (fun _ => false) o) y
noncomputable def irCopy (bt : Nat) : Ir := ⟨fun vs H k => arg1 vs fun x => asPtr x fun b off => andK (Nat.beq off 0) (hpK H fun nx t => t.getK b fun o => asCells o fun l fz et => andK (eqON et (some bt)) (getL l 0 fun y => getL l 1 fun _ => selfK y b
  (Bool.rec (setL (.ptr b 0) l 0 fun l' => t.setK (some (.cells l' false et)) b fun t' => k (.t []) ⟨nx, t'⟩) false fz) (k (.t []) ⟨nx, t⟩)))⟩
/-- the block of a row that begins with its block: from now on nobody writes there -/
noncomputable def frzK (ut : Nat) (y : Sc) (H : Hp) (k : Nat → Nat → Hp → Bool) : Bool :=
  Sc.rec (fun _ _ => false) (fun _ _ => false) (fun _ _ => false) (fun _ => false) (fun b off len _ _ => andK (Nat.beq off 0) (andK (Nat.blt 0 len) (andK (Nat.ble len 1000000) (rowK 1 len (.s y) H fun cs => strOf cs fun m s =>
      hpK H fun nx t => t.getK b fun o => asCells o fun l _ et => andK (eqON et (some ut)) (t.setK (some (.cells l true et)) b fun t' => k m s ⟨nx, t'⟩)))))
    (fun o => Ot.rec false false false (k 0 0 H) false false (fun _ => false) (fun _ _ => false) (fun _ => false) (fun _ => false) false (fun _ => false) o) y
noncomputable def irStr (bt ut : Nat) : Ir := ⟨fun vs H k => arg1 vs fun x => asPtr x fun b off => andK (Nat.beq off 0) (H.t.getK b fun o => asCells o fun l _ et => andK (eqON et (some bt)) (getL l 1 fun y => frzK ut y H fun m s H' => k (.s (.str m s)) H'))⟩
/-- a text of nothing, again and again -/
noncomputable def irRep : Ir := ⟨fun vs H k => arg2 vs fun x y => asStr x fun l s => asI y fun kc c => asNat c fun c => andK (Nat.beq kc 3) <| andK (Nat.ble c 65536) <| andK (Nat.beq s 0) (andK (Nat.ble (Nat.mul l c) 65536) (fNat (Nat.mul l c) fun m => k (.s (.str m 0)) H))⟩
noncomputable def selI (f g : Nat) (i : Ir) (rest : Option Ir) : Option Ir := Bool.rec rest (some i) (Nat.beq f g)
/-- a call within a frame that mends what panics: as the call itself, where it doesn't -/
noncomputable def irTry (D : Dt) (f : Nat) : Ir := ⟨fun vs H k => arg2 vs fun x _ => asPtr x fun _ _ => D (.fn f) vs H fun v H' => Va.rec (fun _ => false) (fun _ => false) (fun l => List.rec (k (.t []) H') (fun _ _ _ => false) l) v⟩
noncomputable def irs0 (copy str rep bt ut : Nat) (f : Nat) : Option Ir := selI f rep irRep (selI f copy (irCopy bt) (selI f str (irStr bt ut) none))
noncomputable def irsOf (C : Cmp) (copy str rep bt ut tryF callF : Nat) (f : Nat) : Option Ir := selI f tryF (irTry (Dn C (irs0 copy str rep bt ut) 200) callF) (irs0 copy str rep bt ut f)
end Go.Proofs.YtmdciljpcnokcaaGreatDoor.Ex
