/-
  A run of closed code by the kernel: more functions whose contract is known (texts of nothing, a volume's geometry).
-/
import Derived.Test.YtmdciljpcnokcaaGreatDoorEzM
namespace Go.Proofs.YtmdciljpcnokcaaGreatDoor.Ex
/-- a text of nothing -/
noncomputable def irZ : Ir := ⟨fun vs H k => arg1 vs fun y => asI y fun kc c => asNat c fun c => andK (Nat.beq kc 3) <| andK (Nat.ble c 65536) <| fNat c fun m => k (.s (.str m 0)) H⟩
noncomputable def ifK (b : Bool) (x y : Bool) : Bool := Bool.rec y x b
/-- a text of known bytes as the number that they are -/
noncomputable def packK (l : Nat) : Nat → (Nat → Bool) → Bool :=
  Nat.rec (fun _ k => k 0) (fun _ ih s k => ifK (Nat.beq s 0) (k 0) (andK (Nat.blt (Nat.mod s 65536) 256) (ih (Nat.div s 65536) fun m => fNat (Nat.add (Nat.mod s 65536) (Nat.mul 256 m)) k))) l
/-- blocks of a volume, and whether each one is of the right size -/
noncomputable def blksK (l : List Sc) : (Bool → List Nat → Bool) → Bool :=
  List.rec (fun k => k true []) (fun x _ ih k => Sc.rec (fun _ _ => false) (fun n s => ih fun b ss => fBool (Bool.rec false b (Nat.beq n 128)) fun b' => k b' (s :: ss)) (fun _ _ => false) (fun _ => false) (fun _ _ _ _ _ => false) (fun _ => false) x) l
noncomputable def nthN (l : List Nat) : Nat → (Nat → Bool) → Bool := List.rec (fun _ _ => false) (fun x _ ih n k => Nat.rec (k x) (fun m _ => ih m k) n) l
noncomputable def geomBad (H : Hp) (k : Va → Hp → Bool) : Bool := k (.t [.g [.int 3 0, .int 3 0, .int 3 0, .int 3 0, .int 3 0, .int 3 0], .s (.int 3 3)]) H
def geomFirst (bl inn : Nat) : Nat := Nat.add 828533096 (Nat.mul 4294967296 (Nat.add bl (Nat.mul 65536 inn)))
noncomputable def geomK (n : Nat) (s0 s2 : Nat) (H : Hp) (k : Va → Hp → Bool) : Bool :=
  fNat (Nat.mod (Nat.div s0 4294967296) 65536) fun bl => fNat (Nat.mod (Nat.div s0 281474976710656) 65536) fun inn =>
    ifK (Nat.ble 16 bl) (ifK (Nat.ble bl 223) (ifK (Nat.ble 4 inn) (ifK (Nat.ble inn 64) (fNat (Nat.add 3 (Nat.div (Nat.succ inn) 2)) fun data =>
      ifK (Nat.blt data bl) (ifK (Nat.beq bl n) (ifK (Nat.beq s0 (geomFirst bl inn)) (
        ifK (Nat.beq (Nat.mod s2 (Nat.pow 2 data)) (Nat.sub (Nat.pow 2 data) 1)) (ifK (Nat.blt s2 (Nat.pow 2 bl))
          (k (.t [.g [.int 3 (Int.ofNat bl), .int 3 (Int.ofNat inn), .int 3 1, .int 3 2, .int 3 3, .int 3 (Int.ofNat data)], .s (.int 3 0)]) H) (geomBad H k)) (geomBad H k))
        (geomBad H k)) (geomBad H k)) (geomBad H k)) (geomBad H k)) (geomBad H k)) (geomBad H k)) (geomBad H k)
noncomputable def irGeom : Ir := ⟨fun vs H k => arg1 vs fun x => asSl x fun _ _ n esz _ => andK (Nat.beq esz 1) (andK (Nat.ble n 1000000) (rowK 1 n x H fun l => blksK l fun ok ss => ifK ok (ifK (Nat.ble 16 n)
  (nthN ss 0 fun t0 => nthN ss 2 fun t2 => packK 128 t0 fun s0 => packK 128 t2 fun s2 => geomK n s0 s2 H k) (geomBad H k)) (geomBad H k)))⟩
/-- a byte's place in a text -/
noncomputable def idxN (c : Nat) (l : Nat) : Nat → Nat → (Int → Bool) → Bool :=
  Nat.rec (fun _ _ k => k (Int.negSucc 0)) (fun _ ih s i k => andK (Nat.blt (Nat.mod s 65536) 256) (Bool.rec (ih (Nat.div s 65536) (Nat.succ i) k) (fNat i fun i => k (Int.ofNat i)) (Nat.beq (Nat.mod s 65536) c))) l
noncomputable def irIdx : Ir := ⟨fun vs H k => arg2 vs fun x y => asStr x fun l s => asI y fun kc c => asNat c fun c => andK (Nat.beq kc 4) <| andK (Nat.blt c 256) <| idxN c l s 0 fun i => k (.s (.int 3 i)) H⟩
/-- elements of a row taken out (z: the zero value) -/
noncomputable def irDel (z : List Sc) (sz : Nat) : Ir := ⟨fun vs H k => arg3 vs fun x y u => asSl x fun b off len esz _ => asI y fun ky i => asI u fun ku j => asNat i fun i => asNat j fun j =>
  andK (Nat.beq ky 3) <| andK (Nat.beq ku 3) <| andK (Nat.beq esz sz) <| andK (Nat.blt i j) <| andK (Nat.ble j len) <| fNat (Nat.add off (Nat.mul j sz)) fun oj => fNat (Nat.add off (Nat.mul i sz)) fun oi => fNat (Nat.sub len j) fun r => fNat (Nat.add i r) fun n =>
    fNat (Nat.add off (Nat.mul n sz)) fun on => rowK sz r (.s (.sl b oj r sz none)) H fun us => overK b oi us H fun H1 => repK z (Nat.sub j i) fun zs => overK b on zs H1 fun H2 => k (.s (.sl b off n esz none)) H2⟩
/-- two bytes of a number -/
noncomputable def irTwo : Ir := ⟨fun vs H k => arg1 vs fun y => asI y fun kc c => asNat c fun n => andK (Nat.beq kc 3) <| andK (Nat.ble n 4294967296) <| fNat (Nat.add (Nat.mod n 256) (Nat.mul 65536 (Nat.mod (Nat.div n 256) 256))) fun m => k (.s (.str 2 m)) H⟩
end Go.Proofs.YtmdciljpcnokcaaGreatDoor.Ex
