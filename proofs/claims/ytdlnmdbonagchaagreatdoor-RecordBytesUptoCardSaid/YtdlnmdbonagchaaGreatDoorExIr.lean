import Derived.Test.YtdlnmdbonagchaaGreatDoorExHE
import Derived.Test.YtdlnmdbonagchaaGreatDoorExDg
namespace Go.Proofs.YtdlnmdbonagchaaGreatDoor.Ex
noncomputable def idxN (c : Nat) (l : Nat) : Nat → Nat → (Int → Bool) → Bool :=
 Nat.rec (fun _ _ k => k (Int.negSucc 0)) (fun _ ih s i k => Bool.rec (ih (Nat.div s 256) (Nat.succ i) k) (fNat i fun i => k (Int.ofNat i)) (Nat.beq (Nat.mod s 256) c)) l
noncomputable def irIdx : Ir:=⟨fun vs H k => arg2 vs fun x y => asStr x fun l s => asI y fun kc c => asNat c fun c => andK (Nat.beq kc 4) <| andK (Nat.blt c 256) <| idxN c l s 0 fun i => k (.s (.int 3 i)) H⟩
noncomputable def selfK (y : Sc) (b : Nat) (e : Bool) (f : Bool) : Bool :=
 Sc.rec (fun _ _ => false) (fun _ _ => false) (fun b' off => andK (Nat.beq b' b) (andK (Nat.beq off 0) f)) (fun _ => false) (fun _ _ _ _ _ => false)
  (fun o => Ot.rec false false e false false false (fun _ => false) (fun _ _ => false) (fun _ => false) (fun _ => false) false o) y
noncomputable def irCopy (bt : Nat) : Ir:=⟨fun vs H k => arg1 vs fun x => asPtr x fun b off => andK (Nat.beq off 0) (hpK H fun nx t => t.getK b fun o => asCells o fun l fz et => andK (eqON et (some bt)) (getL l 0 fun y => getL l 1 fun _ => selfK y b
 (Bool.rec (setL (.ptr b 0) l 0 fun l' => t.setK (some (.cells l' false et)) b fun t' => k (.t []) ⟨nx,t'⟩) false fz) (k (.t []) ⟨nx,t⟩)))⟩
noncomputable def frzK (ut : Nat) (y : Sc) (H : Hp) (k : Nat → Nat → Hp → Bool) : Bool :=
 Sc.rec (fun _ _ => false) (fun _ _ => false) (fun _ _ => false) (fun _ => false) (fun b off len _ _ => andK (Nat.beq off 0) (andK (Nat.blt 0 len) (andK (Nat.ble len 1000000) (rowK 1 len (.s y) H fun cs => strOf cs fun m s => hpK H fun nx t => t.getK b fun o => asCells o fun l _ et => andK (eqON et (some ut)) (t.setK (some (.cells l true et)) b fun t' => k m s ⟨nx,t'⟩)))))
  (fun o => Ot.rec false false false (k 0 0 H) false false (fun _ => false) (fun _ _ => false) (fun _ => false) (fun _ => false) false o) y
noncomputable def irStr (bt ut : Nat) : Ir:=⟨fun vs H k => arg1 vs fun x => asPtr x fun b off => andK (Nat.beq off 0) (H.t.getK b fun o => asCells o fun l _ et => andK (eqON et (some bt)) (getL l 1 fun y => frzK ut y H fun m s H' => k (.s (.str m s)) H'))⟩
noncomputable def blksK (l : List Sc) : (Bool → List Nat → Bool) → Bool :=
 List.rec (fun k => k true []) (fun x _ ih k => Sc.rec (fun _ _ => false) (fun n s => andK (Nat.blt s (Nat.pow 256 n)) (ih fun b ss => fBool (Bool.rec false b (Nat.beq n 128)) fun b' => k b' (s :: ss))) (fun _ _ => false) (fun _ => false) (fun _ _ _ _ _ => false) (fun _ => false) x) l
noncomputable def nthN (l : List Nat) : Nat → (Nat → Bool) → Bool:=List.rec (fun _ _ => false) (fun x _ ih n k => Nat.rec (k x) (fun m _ => ih m k) n) l
noncomputable def ifK (b : Bool) (x y : Bool) : Bool:=Bool.rec y x b
noncomputable def geomBad (H : Hp) (k : Va → Hp → Bool) : Bool:=k (.t [.g [.int 3 0,.int 3 0,.int 3 0,.int 3 0,.int 3 0,.int 3 0],.s (.int 3 3)]) H
def geomFirst (bl inn : Nat) : Nat:=Nat.add 828533096 (Nat.mul 4294967296 (Nat.add bl (Nat.mul 65536 inn)))
noncomputable def geomK (n : Nat) (ss : List Nat) (H : Hp) (k : Va → Hp → Bool) : Bool :=
 nthN ss 0 fun s0 => fNat (Nat.mod (Nat.div s0 4294967296) 65536) fun bl => fNat (Nat.mod (Nat.div s0 281474976710656) 65536) fun inn =>
  ifK (Nat.ble 16 bl) (ifK (Nat.ble bl 223) (ifK (Nat.ble 4 inn) (ifK (Nat.ble inn 64) (fNat (Nat.add 3 (Nat.div (Nat.succ inn) 2)) fun data =>
   ifK (Nat.blt data bl) (ifK (Nat.beq bl n) (ifK (Nat.beq s0 (geomFirst bl inn)) (nthN ss 2 fun s2 =>
    ifK (Nat.beq (Nat.mod s2 (Nat.pow 2 data)) (Nat.sub (Nat.pow 2 data) 1)) (ifK (Nat.blt s2 (Nat.pow 2 bl))
     (k (.t [.g [.int 3 (Int.ofNat bl),.int 3 (Int.ofNat inn),.int 3 1,.int 3 2,.int 3 3,.int 3 (Int.ofNat data)],.s (.int 3 0)]) H) (geomBad H k)) (geomBad H k))
    (geomBad H k)) (geomBad H k)) (geomBad H k)) (geomBad H k)) (geomBad H k)) (geomBad H k)) (geomBad H k)
noncomputable def irGeom : Ir:=⟨fun vs H k => arg1 vs fun x => asSl x fun _ _ n esz _ => andK (Nat.beq esz 1) (andK (Nat.ble n 1000000) (rowK 1 n x H fun l => blksK l fun ok ss => ifK ok (ifK (Nat.ble 16 n) (geomK n ss H k) (geomBad H k)) (geomBad H k)))⟩
noncomputable def irRep : Ir:=⟨fun vs H k => arg2 vs fun x y => asStr x fun l s => asI y fun kc c => asNat c fun c => andK (Nat.beq kc 3) <| andK (Nat.ble c 65536) <| andK (Nat.beq s 0) (andK (Nat.ble (Nat.mul l c) 65536) (fNat (Nat.mul l c) fun m => k (.s (.str m 0)) H))⟩
noncomputable def lenNK (f : Nat) : Nat → (Nat → Nat → Bool) → Bool :=
 Nat.rec (fun _ _ => false) (fun _ ih n k => Bool.rec (ih (Nat.div n 128) fun l m => fNat (Nat.add (Nat.add (Nat.mod n 128) 128) (Nat.mul 256 m)) fun m' => k (Nat.succ l) m') (k 1 n) (Nat.blt n 128)) f
noncomputable def rowNK (l : List Sc) : (Nat → Nat → Bool) → Bool :=
 List.rec (fun k => k 0 0) (fun x _ ih k => Sc.rec (fun _ _ => false) (fun len s => ih fun L N => lenNK 5 len fun a m => fNat (Nat.add a (Nat.add len L)) fun L' => fNat (Nat.add m (Nat.mul (Nat.pow 256 a) (Nat.add s (Nat.mul (Nat.pow 256 len) N)))) fun N' => k L' N') (fun _ _ => false) (fun _ => false) (fun _ _ _ _ _ => false) (fun _ => false) x) l
noncomputable def irRow : Ir:=⟨fun vs H k => arg1 vs fun x => asSl x fun _ _ n esz _ => andK (Nat.beq esz 1) (andK (Nat.ble n 1000000) (rowK 1 n x H fun l => rowNK l fun L N => andK (Nat.ble L 1000000) (k (.s (.str L N)) H)))⟩
noncomputable def flatNK (l : List Sc) : (Nat → Nat → Bool) → Bool :=
 List.rec (fun k => k 0 0) (fun x _ ih k => Sc.rec (fun _ _ => false) (fun len s => ih fun L N => fNat (Nat.add len L) fun L' => fNat (Nat.add s (Nat.mul (Nat.pow 256 len) N)) fun N' => k L' N') (fun _ _ => false) (fun _ => false) (fun _ _ _ _ _ => false) (fun _ => false) x) l
noncomputable def irSum : Ir:=⟨fun vs H k => arg1 vs fun x => asSl x fun _ _ n esz _ => andK (Nat.beq esz 1) (andK (Nat.ble n 1000000) (rowK 1 n x H fun l => flatNK l fun L N => andK (Nat.blt 0 L) (andK (Nat.ble L 1000000) (andK (Nat.blt N (Nat.pow 256 L)) (digK L N fun D => ofStr 32 D fun cs => k (.g cs) H)))))⟩
noncomputable def decNK (f : Nat) : Nat → (Nat → Nat → Bool) → Bool :=
 Nat.rec (fun _ _ => false) (fun _ ih u k => Bool.rec (ih (Nat.div u 10) fun l m => fNat (Nat.add m (Nat.mul (Nat.pow 256 l) (Nat.add 48 (Nat.mod u 10)))) fun m' => k (Nat.succ l) m') (fNat (Nat.add 48 u) fun m => k 1 m) (Nat.blt u 10)) f
noncomputable def irDec : Ir:=⟨fun vs H k => arg1 vs fun x => asI x fun kc n => andK (Nat.beq kc 3) (Int.rec (fun u => andK (Nat.ble u 9223372036854775807) (decNK 20 u fun l m => k (.s (.str l m)) H))
 (fun u => andK (Nat.ble u 9223372036854775806) (decNK 20 (Nat.succ u) fun l m => fNat (Nat.add 45 (Nat.mul 256 m)) fun m' => k (.s (.str (Nat.succ l) m')) H)) n)⟩
noncomputable def selI (f g : Nat) (i : Ir) (rest : Option Ir) : Option Ir:=Bool.rec rest (some i) (Nat.beq f g)
noncomputable def irsOf (row dec sum geomOf idx copy str rep bt ut : Nat) (f : Nat) : Option Ir:=selI f row irRow <| selI f dec irDec <| selI f sum irSum <| selI f rep irRep <| selI f geomOf irGeom (selI f idx irIdx (selI f copy (irCopy bt) (selI f str (irStr bt ut) none)))
end Go.Proofs.YtdlnmdbonagchaaGreatDoor.Ex
