/-
  NARROWER THAN 'FOR EVERY INPUT', by the rows' own cells (each row's printed sentence says how): DeltaIs: laid · DeltaFew: laid · DeltaTold: laid · DeltaApplies: laid · DeltaJoins: laid · DeltaBytes: laid · ImageReads: laid · DeltaBack: laid · ImageBytes: laid.
  DERIVED. THE GIVEN ROWS OF THIS SEAT. 9 by the template 'for every input the law returns true; each argument reads behind the call as it read before'; 0 by the template 'total and deterministic' (their statements: YtecamaceainfpaaDoorTotals.lean).
  GIVEN WITH THE SEED: the statements are not yours to turn. If you find one false, say at which input.
  Laid BY PROGRAM, IN A SANDBOX (cutbox-rows.mjs): the forced cells as the released guide's own fill.sh prints them over the translation 49d266a312b6b8d9… (all of the seat's roots in one cut). By AI agents, Wed Nov 11 2026. No macro, syntax, notation, axiom, sorry.
-/
import Derived.Test.YtecamaceainfpaaDoorChecked
import GoSem.Claim
import GoSem.ClaimJoined
import GoSem.ClaimMapViews
import Derived.JoinedTies
import Derived.KernelRfl
namespace Go.Proofs.YtecamaceainfpaaDoor
/- THE CELL 'sum', in the pinned program and in every row, IS THE sha256 OF THE DUMP (.gsa) THAT YtecamaceainfpaaDoorProg.lean LOADS. Nothing in Lean hashes anything: it is a label: what it is worth is what the hold of that sum in a sandbox is worth. -/
noncomputable def Tryd.pinned : Pinned := { name := "ytecamaceainfpaadoor", sum := "49d266a312b6b8d9e0b5fe2952f01c05cd78a6354bebecc0a099da08104ed292", checked := Tryd.checked }
namespace Rows
def none {H : Type} : Left H := { results := [], args := [] }

/- WHAT THE LISTED PACKAGE-LEVEL VARIABLES READ AS WHEN THE CALL BEGINS. Each datum BY PROGRAM (the guide's laid-datum.mjs) off the statement by which the dump's own 'gosem.cut.vars' lays the variable. In a bare row this is a premise. The card (YtecamaceainfpaaDoorCards.lean) ties it to the program's text. -/
def laid_hibernacle_hash_eight {H : Type} : DataW H := .agg [.lit (.int .u32 1779033703), .lit (.int .u32 3144134277), .lit (.int .u32 1013904242), .lit (.int .u32 2773480762), .lit (.int .u32 1359893119), .lit (.int .u32 2600822924), .lit (.int .u32 528734635), .lit (.int .u32 1541459225)]
def laid_hibernacle_hash_rows {H : Type} : DataW H := .agg [.agg [.lit (.int .u8 0), .lit (.int .u8 1), .lit (.int .u8 2), .lit (.int .u8 3), .lit (.int .u8 4), .lit (.int .u8 5), .lit (.int .u8 6), .lit (.int .u8 7), .lit (.int .u8 8), .lit (.int .u8 9), .lit (.int .u8 10), .lit (.int .u8 11), .lit (.int .u8 12), .lit (.int .u8 13), .lit (.int .u8 14), .lit (.int .u8 15)], .agg [.lit (.int .u8 14), .lit (.int .u8 10), .lit (.int .u8 4), .lit (.int .u8 8), .lit (.int .u8 9), .lit (.int .u8 15), .lit (.int .u8 13), .lit (.int .u8 6), .lit (.int .u8 1), .lit (.int .u8 12), .lit (.int .u8 0), .lit (.int .u8 2), .lit (.int .u8 11), .lit (.int .u8 7), .lit (.int .u8 5), .lit (.int .u8 3)], .agg [.lit (.int .u8 11), .lit (.int .u8 8), .lit (.int .u8 12), .lit (.int .u8 0), .lit (.int .u8 5), .lit (.int .u8 2), .lit (.int .u8 15), .lit (.int .u8 13), .lit (.int .u8 10), .lit (.int .u8 14), .lit (.int .u8 3), .lit (.int .u8 6), .lit (.int .u8 7), .lit (.int .u8 1), .lit (.int .u8 9), .lit (.int .u8 4)], .agg [.lit (.int .u8 7), .lit (.int .u8 9), .lit (.int .u8 3), .lit (.int .u8 1), .lit (.int .u8 13), .lit (.int .u8 12), .lit (.int .u8 11), .lit (.int .u8 14), .lit (.int .u8 2), .lit (.int .u8 6), .lit (.int .u8 5), .lit (.int .u8 10), .lit (.int .u8 4), .lit (.int .u8 0), .lit (.int .u8 15), .lit (.int .u8 8)], .agg [.lit (.int .u8 9), .lit (.int .u8 0), .lit (.int .u8 5), .lit (.int .u8 7), .lit (.int .u8 2), .lit (.int .u8 4), .lit (.int .u8 10), .lit (.int .u8 15), .lit (.int .u8 14), .lit (.int .u8 1), .lit (.int .u8 11), .lit (.int .u8 12), .lit (.int .u8 6), .lit (.int .u8 8), .lit (.int .u8 3), .lit (.int .u8 13)], .agg [.lit (.int .u8 2), .lit (.int .u8 12), .lit (.int .u8 6), .lit (.int .u8 10), .lit (.int .u8 0), .lit (.int .u8 11), .lit (.int .u8 8), .lit (.int .u8 3), .lit (.int .u8 4), .lit (.int .u8 13), .lit (.int .u8 7), .lit (.int .u8 5), .lit (.int .u8 15), .lit (.int .u8 14), .lit (.int .u8 1), .lit (.int .u8 9)], .agg [.lit (.int .u8 12), .lit (.int .u8 5), .lit (.int .u8 1), .lit (.int .u8 15), .lit (.int .u8 14), .lit (.int .u8 13), .lit (.int .u8 4), .lit (.int .u8 10), .lit (.int .u8 0), .lit (.int .u8 7), .lit (.int .u8 6), .lit (.int .u8 3), .lit (.int .u8 9), .lit (.int .u8 2), .lit (.int .u8 8), .lit (.int .u8 11)], .agg [.lit (.int .u8 13), .lit (.int .u8 11), .lit (.int .u8 7), .lit (.int .u8 14), .lit (.int .u8 12), .lit (.int .u8 1), .lit (.int .u8 3), .lit (.int .u8 9), .lit (.int .u8 5), .lit (.int .u8 0), .lit (.int .u8 15), .lit (.int .u8 4), .lit (.int .u8 8), .lit (.int .u8 6), .lit (.int .u8 2), .lit (.int .u8 10)], .agg [.lit (.int .u8 6), .lit (.int .u8 15), .lit (.int .u8 14), .lit (.int .u8 9), .lit (.int .u8 11), .lit (.int .u8 3), .lit (.int .u8 0), .lit (.int .u8 8), .lit (.int .u8 12), .lit (.int .u8 2), .lit (.int .u8 13), .lit (.int .u8 7), .lit (.int .u8 1), .lit (.int .u8 4), .lit (.int .u8 10), .lit (.int .u8 5)], .agg [.lit (.int .u8 10), .lit (.int .u8 2), .lit (.int .u8 8), .lit (.int .u8 4), .lit (.int .u8 7), .lit (.int .u8 6), .lit (.int .u8 1), .lit (.int .u8 5), .lit (.int .u8 15), .lit (.int .u8 11), .lit (.int .u8 9), .lit (.int .u8 14), .lit (.int .u8 3), .lit (.int .u8 12), .lit (.int .u8 13), .lit (.int .u8 0)]]
def laid_math_bits_deBruijn32tab {H : Type} : DataW H := .agg [.lit (.int .u8 0), .lit (.int .u8 1), .lit (.int .u8 28), .lit (.int .u8 2), .lit (.int .u8 29), .lit (.int .u8 14), .lit (.int .u8 24), .lit (.int .u8 3), .lit (.int .u8 30), .lit (.int .u8 22), .lit (.int .u8 20), .lit (.int .u8 15), .lit (.int .u8 25), .lit (.int .u8 17), .lit (.int .u8 4), .lit (.int .u8 8), .lit (.int .u8 31), .lit (.int .u8 27), .lit (.int .u8 13), .lit (.int .u8 23), .lit (.int .u8 21), .lit (.int .u8 19), .lit (.int .u8 16), .lit (.int .u8 7), .lit (.int .u8 26), .lit (.int .u8 12), .lit (.int .u8 18), .lit (.int .u8 6), .lit (.int .u8 11), .lit (.int .u8 5), .lit (.int .u8 10), .lit (.int .u8 9)]
def laid_math_bits_deBruijn64tab {H : Type} : DataW H := .agg [.lit (.int .u8 0), .lit (.int .u8 1), .lit (.int .u8 56), .lit (.int .u8 2), .lit (.int .u8 57), .lit (.int .u8 49), .lit (.int .u8 28), .lit (.int .u8 3), .lit (.int .u8 61), .lit (.int .u8 58), .lit (.int .u8 42), .lit (.int .u8 50), .lit (.int .u8 38), .lit (.int .u8 29), .lit (.int .u8 17), .lit (.int .u8 4), .lit (.int .u8 62), .lit (.int .u8 47), .lit (.int .u8 59), .lit (.int .u8 36), .lit (.int .u8 45), .lit (.int .u8 43), .lit (.int .u8 51), .lit (.int .u8 22), .lit (.int .u8 53), .lit (.int .u8 39), .lit (.int .u8 33), .lit (.int .u8 30), .lit (.int .u8 24), .lit (.int .u8 18), .lit (.int .u8 12), .lit (.int .u8 5), .lit (.int .u8 63), .lit (.int .u8 55), .lit (.int .u8 48), .lit (.int .u8 27), .lit (.int .u8 60), .lit (.int .u8 41), .lit (.int .u8 37), .lit (.int .u8 16), .lit (.int .u8 46), .lit (.int .u8 35), .lit (.int .u8 44), .lit (.int .u8 21), .lit (.int .u8 52), .lit (.int .u8 32), .lit (.int .u8 23), .lit (.int .u8 11), .lit (.int .u8 54), .lit (.int .u8 26), .lit (.int .u8 40), .lit (.int .u8 15), .lit (.int .u8 34), .lit (.int .u8 20), .lit (.int .u8 31), .lit (.int .u8 10), .lit (.int .u8 25), .lit (.int .u8 14), .lit (.int .u8 19), .lit (.int .u8 9), .lit (.int .u8 13), .lit (.int .u8 8), .lit (.int .u8 7), .lit (.int .u8 6)]
def laid_internal_strconv_uint64pow10 {H : Type} : DataW H := .agg [.lit (.int .u64 1), .lit (.int .u64 10), .lit (.int .u64 100), .lit (.int .u64 1000), .lit (.int .u64 10000), .lit (.int .u64 100000), .lit (.int .u64 1000000), .lit (.int .u64 10000000), .lit (.int .u64 100000000), .lit (.int .u64 1000000000), .lit (.int .u64 10000000000), .lit (.int .u64 100000000000), .lit (.int .u64 1000000000000), .lit (.int .u64 10000000000000), .lit (.int .u64 100000000000000), .lit (.int .u64 1000000000000000), .lit (.int .u64 10000000000000000), .lit (.int .u64 100000000000000000), .lit (.int .u64 1000000000000000000), .lit (.int .u64 10000000000000000000)]
def laid_strconv_ErrRange {H : Type} : DataW H := .iface "*errors.errorString" (.ptr (.agg [.lit (.string [118, 97, 108, 117, 101, 32, 111, 117, 116, 32, 111, 102, 32, 114, 97, 110, 103, 101])]))
def laid_strconv_ErrSyntax {H : Type} : DataW H := .iface "*errors.errorString" (.ptr (.agg [.lit (.string [105, 110, 118, 97, 108, 105, 100, 32, 115, 121, 110, 116, 97, 120])]))

/-- 'hibernaclelaw35.DeltaIs': WHATEVER THE INPUT: true; the input reads as it did. -/
def deltaIsSpec : ChangeSpec := { name := "deltaIs", fn := fun _ => fun
  | [d1, d2] => { results := [.lit (.bool true)], args := [d1, d2] }
  | _ => none }
def deltaIsRow : OpenClaim := { program := "ytecamaceainfpaadoor", sum := "49d266a312b6b8d9e0b5fe2952f01c05cd78a6354bebecc0a099da08104ed292", func := "hibernacle/hibernaclelaw35.DeltaIs", spec := "deltaIs", inPlace := ["internal/abi.NoEscape", "internal/bytealg.MakeNoZero"], recurses := true, named := ["hibernacle/hash.eight", "hibernacle/hash.rows"], apart := false, laid := [("hibernacle/hash.eight", laid_hibernacle_hash_eight), ("hibernacle/hash.rows", laid_hibernacle_hash_rows)] }
def DeltaIsSaid : Prop := deltaIsRow.holds Tryd.pinned (OpenSpec.ofChange deltaIsSpec)

/-- ITS FALSE NEIGHBOUR: 'it returns false'. Refute it at one input. -/
def deltaIsWrong : ChangeSpec := { name := "deltaIs", fn := fun _ => fun
  | [d1, d2] => { results := [.lit (.bool false)], args := [d1, d2] }
  | _ => none }
def DeltaIsWrongFalsely : Prop := deltaIsRow.holds Tryd.pinned (OpenSpec.ofChange deltaIsWrong)

/-- 'hibernaclelaw35.DeltaFew': WHATEVER THE INPUT: true; the input reads as it did. -/
def deltaFewSpec : ChangeSpec := { name := "deltaFew", fn := fun _ => fun
  | [d1, d2] => { results := [.lit (.bool true)], args := [d1, d2] }
  | _ => none }
def deltaFewRow : OpenClaim := { program := "ytecamaceainfpaadoor", sum := "49d266a312b6b8d9e0b5fe2952f01c05cd78a6354bebecc0a099da08104ed292", func := "hibernacle/hibernaclelaw35.DeltaFew", spec := "deltaFew", inPlace := ["internal/abi.NoEscape", "internal/bytealg.MakeNoZero"], named := ["hibernacle/hash.eight", "hibernacle/hash.rows"], apart := false, laid := [("hibernacle/hash.eight", laid_hibernacle_hash_eight), ("hibernacle/hash.rows", laid_hibernacle_hash_rows)] }
def DeltaFewSaid : Prop := deltaFewRow.holds Tryd.pinned (OpenSpec.ofChange deltaFewSpec)

/-- ITS FALSE NEIGHBOUR: 'it returns false'. Refute it at one input. -/
def deltaFewWrong : ChangeSpec := { name := "deltaFew", fn := fun _ => fun
  | [d1, d2] => { results := [.lit (.bool false)], args := [d1, d2] }
  | _ => none }
def DeltaFewWrongFalsely : Prop := deltaFewRow.holds Tryd.pinned (OpenSpec.ofChange deltaFewWrong)

/-- 'hibernaclelaw35.DeltaTold': WHATEVER THE INPUT: true; the input reads as it did. -/
def deltaToldSpec : ChangeSpec := { name := "deltaTold", fn := fun _ => fun
  | [d1, d2, d3] => { results := [.lit (.bool true)], args := [d1, d2, d3] }
  | _ => none }
def deltaToldRow : OpenClaim := { program := "ytecamaceainfpaadoor", sum := "49d266a312b6b8d9e0b5fe2952f01c05cd78a6354bebecc0a099da08104ed292", func := "hibernacle/hibernaclelaw35.DeltaTold", spec := "deltaTold", inPlace := ["internal/abi.NoEscape", "internal/bytealg.MakeNoZero"], recurses := true, named := ["hibernacle/hash.eight", "hibernacle/hash.rows"], apart := false, laid := [("hibernacle/hash.eight", laid_hibernacle_hash_eight), ("hibernacle/hash.rows", laid_hibernacle_hash_rows)] }
def DeltaToldSaid : Prop := deltaToldRow.holds Tryd.pinned (OpenSpec.ofChange deltaToldSpec)

/-- ITS FALSE NEIGHBOUR: 'it returns false'. Refute it at one input. -/
def deltaToldWrong : ChangeSpec := { name := "deltaTold", fn := fun _ => fun
  | [d1, d2, d3] => { results := [.lit (.bool false)], args := [d1, d2, d3] }
  | _ => none }
def DeltaToldWrongFalsely : Prop := deltaToldRow.holds Tryd.pinned (OpenSpec.ofChange deltaToldWrong)

/-- 'hibernaclelaw35.DeltaApplies': WHATEVER THE INPUT: true; the input reads as it did. -/
def deltaAppliesSpec : ChangeSpec := { name := "deltaApplies", fn := fun _ => fun
  | [d1, d2, d3] => { results := [.lit (.bool true)], args := [d1, d2, d3] }
  | _ => none }
def deltaAppliesRow : OpenClaim := { program := "ytecamaceainfpaadoor", sum := "49d266a312b6b8d9e0b5fe2952f01c05cd78a6354bebecc0a099da08104ed292", func := "hibernacle/hibernaclelaw35.DeltaApplies", spec := "deltaApplies", inPlace := ["internal/abi.NoEscape", "internal/bytealg.MakeNoZero"], unfollowed := true, recurses := true, named := ["hibernacle/hash.eight", "hibernacle/hash.rows"], apart := false, laid := [("hibernacle/hash.eight", laid_hibernacle_hash_eight), ("hibernacle/hash.rows", laid_hibernacle_hash_rows)] }
def DeltaAppliesSaid : Prop := deltaAppliesRow.holds Tryd.pinned (OpenSpec.ofChange deltaAppliesSpec)

/-- ITS FALSE NEIGHBOUR: 'it returns false'. Refute it at one input. -/
def deltaAppliesWrong : ChangeSpec := { name := "deltaApplies", fn := fun _ => fun
  | [d1, d2, d3] => { results := [.lit (.bool false)], args := [d1, d2, d3] }
  | _ => none }
def DeltaAppliesWrongFalsely : Prop := deltaAppliesRow.holds Tryd.pinned (OpenSpec.ofChange deltaAppliesWrong)

/-- 'hibernaclelaw35.DeltaJoins': WHATEVER THE INPUT: true; the input reads as it did. -/
def deltaJoinsSpec : ChangeSpec := { name := "deltaJoins", fn := fun _ => fun
  | [d1, d2, d3] => { results := [.lit (.bool true)], args := [d1, d2, d3] }
  | _ => none }
def deltaJoinsRow : OpenClaim := { program := "ytecamaceainfpaadoor", sum := "49d266a312b6b8d9e0b5fe2952f01c05cd78a6354bebecc0a099da08104ed292", func := "hibernacle/hibernaclelaw35.DeltaJoins", spec := "deltaJoins", inPlace := ["internal/abi.NoEscape", "internal/bytealg.MakeNoZero"], unfollowed := true, recurses := true, named := ["hibernacle/hash.eight", "hibernacle/hash.rows"], apart := false, laid := [("hibernacle/hash.eight", laid_hibernacle_hash_eight), ("hibernacle/hash.rows", laid_hibernacle_hash_rows)] }
def DeltaJoinsSaid : Prop := deltaJoinsRow.holds Tryd.pinned (OpenSpec.ofChange deltaJoinsSpec)

/-- ITS FALSE NEIGHBOUR: 'it returns false'. Refute it at one input. -/
def deltaJoinsWrong : ChangeSpec := { name := "deltaJoins", fn := fun _ => fun
  | [d1, d2, d3] => { results := [.lit (.bool false)], args := [d1, d2, d3] }
  | _ => none }
def DeltaJoinsWrongFalsely : Prop := deltaJoinsRow.holds Tryd.pinned (OpenSpec.ofChange deltaJoinsWrong)

/-- 'hibernaclelaw35.DeltaBytes': WHATEVER THE INPUT: true; the input reads as it did. -/
def deltaBytesSpec : ChangeSpec := { name := "deltaBytes", fn := fun _ => fun
  | [d1, d2] => { results := [.lit (.bool true)], args := [d1, d2] }
  | _ => none }
def deltaBytesRow : OpenClaim := { program := "ytecamaceainfpaadoor", sum := "49d266a312b6b8d9e0b5fe2952f01c05cd78a6354bebecc0a099da08104ed292", func := "hibernacle/hibernaclelaw35.DeltaBytes", spec := "deltaBytes", inPlace := ["internal/abi.NoEscape", "internal/bytealg.MakeNoZero"], unfollowed := true, recurses := true, named := ["hibernacle/hash.eight", "hibernacle/hash.rows", "internal/strconv.uint64pow10", "math/bits.deBruijn32tab", "math/bits.deBruijn64tab", "strconv.ErrSyntax", "strconv.ErrRange"], apart := false, laid := [("math/bits.deBruijn32tab", laid_math_bits_deBruijn32tab), ("math/bits.deBruijn64tab", laid_math_bits_deBruijn64tab), ("hibernacle/hash.eight", laid_hibernacle_hash_eight), ("hibernacle/hash.rows", laid_hibernacle_hash_rows), ("internal/strconv.uint64pow10", laid_internal_strconv_uint64pow10), ("strconv.ErrRange", laid_strconv_ErrRange), ("strconv.ErrSyntax", laid_strconv_ErrSyntax)] }
def DeltaBytesSaid : Prop := deltaBytesRow.holds Tryd.pinned (OpenSpec.ofChange deltaBytesSpec)

/-- ITS FALSE NEIGHBOUR: 'it returns false'. Refute it at one input. -/
def deltaBytesWrong : ChangeSpec := { name := "deltaBytes", fn := fun _ => fun
  | [d1, d2] => { results := [.lit (.bool false)], args := [d1, d2] }
  | _ => none }
def DeltaBytesWrongFalsely : Prop := deltaBytesRow.holds Tryd.pinned (OpenSpec.ofChange deltaBytesWrong)

/-- 'hibernaclelaw32.ImageReads': WHATEVER THE INPUT: true; the input reads as it did. -/
def imageReadsSpec : ChangeSpec := { name := "imageReads", fn := fun _ => fun
  | [d] => { results := [.lit (.bool true)], args := [d] }
  | _ => none }
def imageReadsRow : OpenClaim := { program := "ytecamaceainfpaadoor", sum := "49d266a312b6b8d9e0b5fe2952f01c05cd78a6354bebecc0a099da08104ed292", func := "hibernacle/hibernaclelaw32.ImageReads", spec := "imageReads", inPlace := ["internal/abi.NoEscape", "internal/bytealg.MakeNoZero"], unfollowed := true, recurses := true, named := ["internal/strconv.uint64pow10", "math/bits.deBruijn32tab", "math/bits.deBruijn64tab"], apart := false, laid := [("math/bits.deBruijn32tab", laid_math_bits_deBruijn32tab), ("math/bits.deBruijn64tab", laid_math_bits_deBruijn64tab), ("internal/strconv.uint64pow10", laid_internal_strconv_uint64pow10)] }
def ImageReadsSaid : Prop := imageReadsRow.holds Tryd.pinned (OpenSpec.ofChange imageReadsSpec)

/-- ITS FALSE NEIGHBOUR: 'it returns false'. Refute it at one input. -/
def imageReadsWrong : ChangeSpec := { name := "imageReads", fn := fun _ => fun
  | [d] => { results := [.lit (.bool false)], args := [d] }
  | _ => none }
def ImageReadsWrongFalsely : Prop := imageReadsRow.holds Tryd.pinned (OpenSpec.ofChange imageReadsWrong)

/-- 'hibernaclelaw35.DeltaBack': WHATEVER THE INPUT: true; the input reads as it did. -/
def deltaBackSpec : ChangeSpec := { name := "deltaBack", fn := fun _ => fun
  | [d1, d2] => { results := [.lit (.bool true)], args := [d1, d2] }
  | _ => none }
def deltaBackRow : OpenClaim := { program := "ytecamaceainfpaadoor", sum := "49d266a312b6b8d9e0b5fe2952f01c05cd78a6354bebecc0a099da08104ed292", func := "hibernacle/hibernaclelaw35.DeltaBack", spec := "deltaBack", inPlace := ["internal/abi.NoEscape", "internal/bytealg.MakeNoZero"], unfollowed := true, recurses := true, named := ["hibernacle/hash.eight", "hibernacle/hash.rows", "internal/strconv.uint64pow10", "math/bits.deBruijn32tab", "math/bits.deBruijn64tab", "strconv.ErrSyntax", "strconv.ErrRange"], apart := false, laid := [("math/bits.deBruijn32tab", laid_math_bits_deBruijn32tab), ("math/bits.deBruijn64tab", laid_math_bits_deBruijn64tab), ("hibernacle/hash.eight", laid_hibernacle_hash_eight), ("hibernacle/hash.rows", laid_hibernacle_hash_rows), ("internal/strconv.uint64pow10", laid_internal_strconv_uint64pow10), ("strconv.ErrRange", laid_strconv_ErrRange), ("strconv.ErrSyntax", laid_strconv_ErrSyntax)] }
def DeltaBackSaid : Prop := deltaBackRow.holds Tryd.pinned (OpenSpec.ofChange deltaBackSpec)

/-- ITS FALSE NEIGHBOUR: 'it returns false'. Refute it at one input. -/
def deltaBackWrong : ChangeSpec := { name := "deltaBack", fn := fun _ => fun
  | [d1, d2] => { results := [.lit (.bool false)], args := [d1, d2] }
  | _ => none }
def DeltaBackWrongFalsely : Prop := deltaBackRow.holds Tryd.pinned (OpenSpec.ofChange deltaBackWrong)

/-- 'hibernaclelaw32.ImageBytes': WHATEVER THE INPUT: true; the input reads as it did. -/
def imageBytesSpec : ChangeSpec := { name := "imageBytes", fn := fun _ => fun
  | [d] => { results := [.lit (.bool true)], args := [d] }
  | _ => none }
def imageBytesRow : OpenClaim := { program := "ytecamaceainfpaadoor", sum := "49d266a312b6b8d9e0b5fe2952f01c05cd78a6354bebecc0a099da08104ed292", func := "hibernacle/hibernaclelaw32.ImageBytes", spec := "imageBytes", inPlace := ["internal/abi.NoEscape", "internal/bytealg.MakeNoZero"], unfollowed := true, recurses := true, named := ["internal/strconv.uint64pow10", "math/bits.deBruijn32tab", "math/bits.deBruijn64tab", "hibernacle/hash.eight", "hibernacle/hash.rows"], apart := false, laid := [("math/bits.deBruijn32tab", laid_math_bits_deBruijn32tab), ("math/bits.deBruijn64tab", laid_math_bits_deBruijn64tab), ("hibernacle/hash.eight", laid_hibernacle_hash_eight), ("hibernacle/hash.rows", laid_hibernacle_hash_rows), ("internal/strconv.uint64pow10", laid_internal_strconv_uint64pow10)] }
def ImageBytesSaid : Prop := imageBytesRow.holds Tryd.pinned (OpenSpec.ofChange imageBytesSpec)

/-- ITS FALSE NEIGHBOUR: 'it returns false'. Refute it at one input. -/
def imageBytesWrong : ChangeSpec := { name := "imageBytes", fn := fun _ => fun
  | [d] => { results := [.lit (.bool false)], args := [d] }
  | _ => none }
def ImageBytesWrongFalsely : Prop := imageBytesRow.holds Tryd.pinned (OpenSpec.ofChange imageBytesWrong)

/- THE SECOND FORM. 'bulk': how many values and letters a reading holds, each counted each time it is reached (what is shared counts as often as it is met; a slice's spare places count too). A statement '..UptoSaid' is the law's where the arguments, and the package variables that the reading takes, are together of bulk at most 1048576: NARROWER than '..Said'. Prove '..Said' where nothing that the law and all that it calls make is longer than what came in: it says more and counts as full. Else prove '..UptoSaid'. A law counts once. -/
mutual
def uptoBulk {H : Type} : DataW H → Nat
  | .lit (.string bytes) => bytes.length + 1
  | .lit _ => 1
  | .nil => 1
  | .ptr d => uptoBulk d + 1
  | .slice elems spare => uptoBulkAll elems + uptoBulkAll spare + 1
  | .agg parts => uptoBulkAll parts + 1
  | .iface _ d => uptoBulk d + 1
  | .map entries => uptoBulkEntries entries + 1
  | .held _ => 1
def uptoBulkAll {H : Type} : List (DataW H) → Nat
  | [] => 0
  | d :: r => uptoBulk d + uptoBulkAll r
def uptoBulkEntries {H : Type} : List (Lit × DataW H) → Nat
  | [] => 0
  | x :: r => uptoBulkEntry x + uptoBulkEntries r
def uptoBulkEntry {H : Type} : Lit × DataW H → Nat
  | (.string bytes, d) => bytes.length + uptoBulk d + 1
  | (_, d) => uptoBulk d + 1
 end
def uptoSmall : (H : Type) → List (DataW H) → Bool := fun _ ds => decide (uptoBulkAll ds ≤ 1048576)
def OpenSpec.upto (s : _root_.Go.ChangeSpec) : _root_.Go.OpenSpec := { _root_.Go.OpenSpec.ofChange s with cond := some uptoSmall }

/-- 'hibernaclelaw35.DeltaIs', WHERE WHAT IT READS IS OF BULK AT MOST 1048576: true; the input reads as it did. -/
def deltaIsUptoRow : OpenClaim := { program := "ytecamaceainfpaadoor", sum := "49d266a312b6b8d9e0b5fe2952f01c05cd78a6354bebecc0a099da08104ed292", func := "hibernacle/hibernaclelaw35.DeltaIs", spec := "deltaIs", inPlace := ["internal/abi.NoEscape", "internal/bytealg.MakeNoZero"], recurses := true, named := ["hibernacle/hash.eight", "hibernacle/hash.rows"], apart := false, laid := [("hibernacle/hash.eight", laid_hibernacle_hash_eight), ("hibernacle/hash.rows", laid_hibernacle_hash_rows)], narrowed := true }
def DeltaIsUptoSaid : Prop := deltaIsUptoRow.holds Tryd.pinned (OpenSpec.upto deltaIsSpec)

/-- 'hibernaclelaw35.DeltaFew', WHERE WHAT IT READS IS OF BULK AT MOST 1048576: true; the input reads as it did. -/
def deltaFewUptoRow : OpenClaim := { program := "ytecamaceainfpaadoor", sum := "49d266a312b6b8d9e0b5fe2952f01c05cd78a6354bebecc0a099da08104ed292", func := "hibernacle/hibernaclelaw35.DeltaFew", spec := "deltaFew", inPlace := ["internal/abi.NoEscape", "internal/bytealg.MakeNoZero"], named := ["hibernacle/hash.eight", "hibernacle/hash.rows"], apart := false, laid := [("hibernacle/hash.eight", laid_hibernacle_hash_eight), ("hibernacle/hash.rows", laid_hibernacle_hash_rows)], narrowed := true }
def DeltaFewUptoSaid : Prop := deltaFewUptoRow.holds Tryd.pinned (OpenSpec.upto deltaFewSpec)

/-- 'hibernaclelaw35.DeltaTold', WHERE WHAT IT READS IS OF BULK AT MOST 1048576: true; the input reads as it did. -/
def deltaToldUptoRow : OpenClaim := { program := "ytecamaceainfpaadoor", sum := "49d266a312b6b8d9e0b5fe2952f01c05cd78a6354bebecc0a099da08104ed292", func := "hibernacle/hibernaclelaw35.DeltaTold", spec := "deltaTold", inPlace := ["internal/abi.NoEscape", "internal/bytealg.MakeNoZero"], recurses := true, named := ["hibernacle/hash.eight", "hibernacle/hash.rows"], apart := false, laid := [("hibernacle/hash.eight", laid_hibernacle_hash_eight), ("hibernacle/hash.rows", laid_hibernacle_hash_rows)], narrowed := true }
def DeltaToldUptoSaid : Prop := deltaToldUptoRow.holds Tryd.pinned (OpenSpec.upto deltaToldSpec)

/-- 'hibernaclelaw35.DeltaApplies', WHERE WHAT IT READS IS OF BULK AT MOST 1048576: true; the input reads as it did. -/
def deltaAppliesUptoRow : OpenClaim := { program := "ytecamaceainfpaadoor", sum := "49d266a312b6b8d9e0b5fe2952f01c05cd78a6354bebecc0a099da08104ed292", func := "hibernacle/hibernaclelaw35.DeltaApplies", spec := "deltaApplies", inPlace := ["internal/abi.NoEscape", "internal/bytealg.MakeNoZero"], unfollowed := true, recurses := true, named := ["hibernacle/hash.eight", "hibernacle/hash.rows"], apart := false, laid := [("hibernacle/hash.eight", laid_hibernacle_hash_eight), ("hibernacle/hash.rows", laid_hibernacle_hash_rows)], narrowed := true }
def DeltaAppliesUptoSaid : Prop := deltaAppliesUptoRow.holds Tryd.pinned (OpenSpec.upto deltaAppliesSpec)

/-- 'hibernaclelaw35.DeltaJoins', WHERE WHAT IT READS IS OF BULK AT MOST 1048576: true; the input reads as it did. -/
def deltaJoinsUptoRow : OpenClaim := { program := "ytecamaceainfpaadoor", sum := "49d266a312b6b8d9e0b5fe2952f01c05cd78a6354bebecc0a099da08104ed292", func := "hibernacle/hibernaclelaw35.DeltaJoins", spec := "deltaJoins", inPlace := ["internal/abi.NoEscape", "internal/bytealg.MakeNoZero"], unfollowed := true, recurses := true, named := ["hibernacle/hash.eight", "hibernacle/hash.rows"], apart := false, laid := [("hibernacle/hash.eight", laid_hibernacle_hash_eight), ("hibernacle/hash.rows", laid_hibernacle_hash_rows)], narrowed := true }
def DeltaJoinsUptoSaid : Prop := deltaJoinsUptoRow.holds Tryd.pinned (OpenSpec.upto deltaJoinsSpec)

/-- 'hibernaclelaw35.DeltaBytes', WHERE WHAT IT READS IS OF BULK AT MOST 1048576: true; the input reads as it did. -/
def deltaBytesUptoRow : OpenClaim := { program := "ytecamaceainfpaadoor", sum := "49d266a312b6b8d9e0b5fe2952f01c05cd78a6354bebecc0a099da08104ed292", func := "hibernacle/hibernaclelaw35.DeltaBytes", spec := "deltaBytes", inPlace := ["internal/abi.NoEscape", "internal/bytealg.MakeNoZero"], unfollowed := true, recurses := true, named := ["hibernacle/hash.eight", "hibernacle/hash.rows", "internal/strconv.uint64pow10", "math/bits.deBruijn32tab", "math/bits.deBruijn64tab", "strconv.ErrSyntax", "strconv.ErrRange"], apart := false, laid := [("math/bits.deBruijn32tab", laid_math_bits_deBruijn32tab), ("math/bits.deBruijn64tab", laid_math_bits_deBruijn64tab), ("hibernacle/hash.eight", laid_hibernacle_hash_eight), ("hibernacle/hash.rows", laid_hibernacle_hash_rows), ("internal/strconv.uint64pow10", laid_internal_strconv_uint64pow10), ("strconv.ErrRange", laid_strconv_ErrRange), ("strconv.ErrSyntax", laid_strconv_ErrSyntax)], narrowed := true }
def DeltaBytesUptoSaid : Prop := deltaBytesUptoRow.holds Tryd.pinned (OpenSpec.upto deltaBytesSpec)

/-- 'hibernaclelaw32.ImageReads', WHERE WHAT IT READS IS OF BULK AT MOST 1048576: true; the input reads as it did. -/
def imageReadsUptoRow : OpenClaim := { program := "ytecamaceainfpaadoor", sum := "49d266a312b6b8d9e0b5fe2952f01c05cd78a6354bebecc0a099da08104ed292", func := "hibernacle/hibernaclelaw32.ImageReads", spec := "imageReads", inPlace := ["internal/abi.NoEscape", "internal/bytealg.MakeNoZero"], unfollowed := true, recurses := true, named := ["internal/strconv.uint64pow10", "math/bits.deBruijn32tab", "math/bits.deBruijn64tab"], apart := false, laid := [("math/bits.deBruijn32tab", laid_math_bits_deBruijn32tab), ("math/bits.deBruijn64tab", laid_math_bits_deBruijn64tab), ("internal/strconv.uint64pow10", laid_internal_strconv_uint64pow10)], narrowed := true }
def ImageReadsUptoSaid : Prop := imageReadsUptoRow.holds Tryd.pinned (OpenSpec.upto imageReadsSpec)

/-- 'hibernaclelaw35.DeltaBack', WHERE WHAT IT READS IS OF BULK AT MOST 1048576: true; the input reads as it did. -/
def deltaBackUptoRow : OpenClaim := { program := "ytecamaceainfpaadoor", sum := "49d266a312b6b8d9e0b5fe2952f01c05cd78a6354bebecc0a099da08104ed292", func := "hibernacle/hibernaclelaw35.DeltaBack", spec := "deltaBack", inPlace := ["internal/abi.NoEscape", "internal/bytealg.MakeNoZero"], unfollowed := true, recurses := true, named := ["hibernacle/hash.eight", "hibernacle/hash.rows", "internal/strconv.uint64pow10", "math/bits.deBruijn32tab", "math/bits.deBruijn64tab", "strconv.ErrSyntax", "strconv.ErrRange"], apart := false, laid := [("math/bits.deBruijn32tab", laid_math_bits_deBruijn32tab), ("math/bits.deBruijn64tab", laid_math_bits_deBruijn64tab), ("hibernacle/hash.eight", laid_hibernacle_hash_eight), ("hibernacle/hash.rows", laid_hibernacle_hash_rows), ("internal/strconv.uint64pow10", laid_internal_strconv_uint64pow10), ("strconv.ErrRange", laid_strconv_ErrRange), ("strconv.ErrSyntax", laid_strconv_ErrSyntax)], narrowed := true }
def DeltaBackUptoSaid : Prop := deltaBackUptoRow.holds Tryd.pinned (OpenSpec.upto deltaBackSpec)

/-- 'hibernaclelaw32.ImageBytes', WHERE WHAT IT READS IS OF BULK AT MOST 1048576: true; the input reads as it did. -/
def imageBytesUptoRow : OpenClaim := { program := "ytecamaceainfpaadoor", sum := "49d266a312b6b8d9e0b5fe2952f01c05cd78a6354bebecc0a099da08104ed292", func := "hibernacle/hibernaclelaw32.ImageBytes", spec := "imageBytes", inPlace := ["internal/abi.NoEscape", "internal/bytealg.MakeNoZero"], unfollowed := true, recurses := true, named := ["internal/strconv.uint64pow10", "math/bits.deBruijn32tab", "math/bits.deBruijn64tab", "hibernacle/hash.eight", "hibernacle/hash.rows"], apart := false, laid := [("math/bits.deBruijn32tab", laid_math_bits_deBruijn32tab), ("math/bits.deBruijn64tab", laid_math_bits_deBruijn64tab), ("hibernacle/hash.eight", laid_hibernacle_hash_eight), ("hibernacle/hash.rows", laid_hibernacle_hash_rows), ("internal/strconv.uint64pow10", laid_internal_strconv_uint64pow10)], narrowed := true }
def ImageBytesUptoSaid : Prop := imageBytesUptoRow.holds Tryd.pinned (OpenSpec.upto imageBytesSpec)

end Rows
end Go.Proofs.YtecamaceainfpaaDoor
